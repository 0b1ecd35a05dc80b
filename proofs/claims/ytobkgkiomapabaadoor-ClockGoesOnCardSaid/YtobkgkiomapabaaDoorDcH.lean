/- The document's Hear. -/
import Derived.Test.YtobkgkiomapabaaDoorDcE
namespace Go.Proofs.YtobkgkiomapabaaDoor
open Go.RowKit Go.Maps Go.Shelf
set_option linter.unusedVariables false

theorem sc_info : (Tryd.prog.info? 54).map (fun i => (i.zero, i.size, i.bytes)) = some (some (.agg #[.string ⟨#[]⟩, .int .i64 0, .int .i64 0]), 3, 32) := by kernel_rfl
theorem own_empty (w : World) (e : TypeId) (size : Nat) : (w.alloc (.cells #[] e)).ownsRow w.heap.size e size (.slice (some ⟨w.heap.size, 0, none⟩) 0 0) 0 [] :=
  ⟨by simp, Or.inr ⟨w.heap.size, 0, #[], rfl, Nat.le_refl _, heap_alloc_new w _, Nat.le_refl _, Nat.zero_le _, by simp, by simp⟩⟩
theorem own_mono {w : World} {base base' e size n : Nat} {v : Value} {xs : List Value} (h : w.ownsRow base e size v n xs) (hb : base' ≤ base) : w.ownsRow base' e size v n xs := by
  refine ⟨h.1, h.2.elim Or.inl fun ⟨g, cap, cur, h1, h2, h3⟩ => Or.inr ⟨g, cap, cur, h1, by omega, h3⟩⟩
theorem bel1 {w7 wa w1 : World} {r1 : Option Nat} (ha : Below w7.heap.size w7 wa) (hg1 : wa.grownBy w1 r1) (h1 : ∀ j, r1 = some j → w7.heap.size ≤ j) : Below w7.heap.size w7 w1 :=
  ((⟨ha.os, ha.tape, ha.output, ha.size, fun i hi _ => ha.block i hi⟩ : Kept (fun q => w7.heap.size ≤ q) w7 wa).grown hg1 (fun j hj => Or.inl (h1 j hj))).toBelow (fun i hi => hi) (Nat.le_refl _)
theorem row_grown {w w' : World} {B size n b : Nat} {xs : List Value} {row : Option Nat} (h : RowIn w B size (some ⟨b, 0, none⟩) n xs) (hb : b < w.heap.size) (hne : some b ≠ row) (hg : w.grownBy w' row) : RowIn w' B size (some ⟨b, 0, none⟩) n xs := by
  refine ⟨h.1, h.2.elim Or.inl fun hx => Or.inr ?_⟩
  obtain ⟨b', off, e, hb', hc⟩ := hx
  injection e with e
  injection e with e1 e2
  subst e1 e2
  exact ⟨b, 0, rfl, hb', fun j u hu => (World.cell?_of_block (hg.block b hb hne)).trans (hc j u hu)⟩
theorem one_sc (w : World) (x : Sc) (t : TypeId) : RowIn (w.alloc (.cells #[.string x.1, .int .i64 x.2.1, .int .i64 x.2.2] t)) (w.heap.size + 1) 3 (some ⟨w.heap.size, 0, none⟩) 1 (scC x) := by
  refine ⟨rfl, Or.inr ⟨w.heap.size, 0, rfl, by omega, fun j u hu => ?_⟩⟩
  rw [(Blk.new w t _).cell]
  rw [← hu, Nat.zero_add]
  simp [scC]
theorem own_caps {w : World} {base e size n c : Nat} {A : Option Addr} {xs : List Value} (h : w.ownsRow base e size (.slice A n c) n xs) : n ≤ c ∧ (A = none → c = 0) ∧ ∀ g o, A = some ⟨g, o, none⟩ → base ≤ g ∧ o = 0 := by
  rcases h.2 with ⟨h, h0⟩ | ⟨g9, cap9, cur9, h, hb, _, h4, _⟩
  · injection h with h1 h2 h3
    exact ⟨by omega, fun _ => h3, fun g o e => by rw [h1] at e; cases e⟩
  · injection h with h1 _ h3
    refine ⟨by rw [h3]; exact h4, fun h => ?_, fun g o e => ?_⟩
    · rw [h] at h1
      cases h1
    · rw [h1] at e
      injection e with e
      injection e with e1 e2
      exact ⟨by omega, e2.symm⟩
theorem doc_store {w : World} {D db cc cc' n' base : Nat} {A A' : Option Addr} {l l' : List Sc} {c c' : Ck} (h : DocIn w D db A cc l c) (ho : w.ownsRow base 54 3 (.slice A' n' cc') n' (l'.flatMap scC)) (hb : db < base) (hn : l'.length = n') (hr : Rows' c'.src l') (h1 : c'.slack = c.slack) (h2 : c'.idle = c.idle) (h3 : c'.now = c.now) (h4 : c'.mark = c.mark) :
    DocIn (w.setCell ⟨db, 4, none⟩ (.slice A' n' cc')) D db A' cc' l' c' := by
  obtain ⟨e1, e2, e3⟩ := own_caps ho
  subst hn
  obtain ⟨s0, s1, i0, i1, n0, n1, m0, m1⟩ := h.ok
  refine ⟨?_, ⟨ho.1, ?_⟩, fun g o e => ⟨by have := (e3 g o e).1; omega, by have := (e3 g o e).1; have := h.base; omega⟩, e2, e1, h.base, ⟨by omega, by omega, by omega, by omega, by omega, by omega, by omega, by omega⟩, hr⟩
  · rw [h1, h2, h3, h4]
    exact h.blk.set_ 4 _
  · rcases (RowIn.of_own ho).2 with h0 | ⟨b, off, e, hbl, hcc⟩
    · exact Or.inl h0
    · refine Or.inr ⟨b, off, e, by simpa [World.setCell] using hbl, fun j u' hu => ?_⟩
      exact (World.cell?_of_block (Below.heap_setCell w ⟨db, 4, none⟩ _ b (by have := (e3 b off e).1; show b ≠ db; omega))).trans (hcc j u' hu)
theorem flat_set (x : Sc) : ∀ (l : List Sc) (k : Nat), k < l.length → (((l.flatMap scC).set (k * 3) (.string x.1)).set (k * 3 + 1) (.int .i64 x.2.1)).set (k * 3 + 2) (.int .i64 x.2.2) = (l.set k x).flatMap scC
  | [], k, h => by simp at h
  | y :: l, 0, h => by simp [scC]
  | y :: l, k + 1, h => by
    have ih := flat_set x l k (by simpa using h)
    rw [List.set_cons_succ, List.flatMap_cons, List.flatMap_cons, ← ih]
    have e : (k + 1) * 3 = (k * 3 + 1 + 1) + 1 := by omega
    rw [e]
    simp [scC]
theorem own_set3 {w : World} {base e g cap n k : Nat} {l : List Sc} (h : w.ownsRow base e 3 (.slice (some ⟨g, 0, none⟩) n cap) n (l.flatMap scC)) (hk : k < l.length) (x : Sc) :
    (w.setCells g (k * 3) (scC x)).ownsRow base e 3 (.slice (some ⟨g, 0, none⟩) n cap) n ((l.set k x).flatMap scC) ∧ w.grownBy (w.setCells g (k * 3) (scC x)) (some g) := by
  have h1 := h.stored (k * 3) (.string x.1)
  have h2 := h1.1.stored (k * 3 + 1) (.int .i64 x.2.1)
  have h3 := h2.1.stored (k * 3 + 2) (.int .i64 x.2.2)
  rw [flat_set x l k hk] at h3
  exact ⟨h3.1, (h1.2.trans h2.2).trans h3.2⟩

/-! ### plain -/
theorem put_same (f : List UInt8 → Option (Int × Int)) (s : ByteArray) (x : Int × Int) (t : ByteArray) : put f s.data.toList x t.data.toList = if t = s then some x else f t.data.toList := by
  unfold put
  by_cases h : t = s
  · subst h; simp
  · rw [if_neg (fun e => h (ba_eq e)), if_neg h]
theorem rows_set {f : List UInt8 → Option (Int × Int)} {l : List Sc} {s : ByteArray} {k : Nat} {x y : Int × Int} (hr : Rows' f l) (hk : l[k]? = some (s, y)) (hx : 0 ≤ x.1 ∧ x.1 ≤ 1099511627776 ∧ 0 ≤ x.2 ∧ x.2 ≤ 1099511627776) : Rows' (put f s.data.toList x) (l.set k (s, x)) := by
  have hkl := (List.getElem?_eq_some_iff.1 hk).1
  have hmap : (l.set k (s, x)).map (·.1) = l.map (·.1) := by
    apply List.ext_getElem?
    intro j
    rw [List.getElem?_map, List.getElem?_map, List.getElem?_set]
    by_cases e : k = j
    · subst e
      rw [if_pos rfl, if_pos hkl, hk]
      rfl
    · rw [if_neg e]
  have hasc : (l.map (·.1)).Pairwise ltN := List.pairwise_map.2 hr.asc
  refine ⟨List.pairwise_map.1 (by rw [hmap]; exact hasc), fun t z => ?_, fun z hz => ?_⟩
  · rw [put_same]
    have hmem : (t, z) ∈ l.set k (s, x) ↔ ∃ j : Nat, (l.set k (s, x))[j]? = some (t, z) := List.mem_iff_getElem?
    rw [hmem]
    by_cases e : t = s
    · subst e
      rw [if_pos rfl]
      constructor
      · intro h
        cases h
        exact ⟨k, by rw [List.getElem?_set, if_pos rfl, if_pos hkl]⟩
      · rintro ⟨j, hj⟩
        rw [List.getElem?_set] at hj
        by_cases ej : k = j
        · rw [if_pos ej, if_pos hkl] at hj
          cases hj
          rfl
        · rw [if_neg ej] at hj
          have h1 := (hr.mem t z).2 (List.mem_of_getElem? hj)
          have h2 := (hr.mem t y).2 (List.mem_of_getElem? hk)
          rw [h2] at h1
          cases h1
          exfalso
          have hjl := (List.getElem?_eq_some_iff.1 hj).1
          rcases Nat.lt_or_gt_of_ne ej with h | h
          · have := List.pairwise_iff_getElem.1 hr.asc k j hkl hjl h
            rw [(List.getElem?_eq_some_iff.1 hk).2, (List.getElem?_eq_some_iff.1 hj).2] at this
            exact ltN_irr _ this
          · have := List.pairwise_iff_getElem.1 hr.asc j k hjl hkl h
            rw [(List.getElem?_eq_some_iff.1 hk).2, (List.getElem?_eq_some_iff.1 hj).2] at this
            exact ltN_irr _ this
    · rw [if_neg e, hr.mem t z, List.mem_iff_getElem?]
      constructor
      · rintro ⟨j, hj⟩
        refine ⟨j, ?_⟩
        rw [List.getElem?_set]
        by_cases ej : k = j
        · subst ej
          rw [hk] at hj
          cases hj
          exact absurd rfl e
        · rw [if_neg ej]; exact hj
      · rintro ⟨j, hj⟩
        refine ⟨j, ?_⟩
        rw [List.getElem?_set] at hj
        by_cases ej : k = j
        · rw [if_pos ej, if_pos hkl] at hj
          cases hj
          exact absurd rfl e
        · rw [if_neg ej] at hj; exact hj
  · rcases List.mem_or_eq_of_mem_set hz with h | rfl
    · exact hr.ok z h
    · have := hr.ok _ (List.mem_of_getElem? hk)
      exact ⟨hx.1, hx.2.1, hx.2.2.1, hx.2.2.2, this.2.2.2.2⟩
theorem rows_ins {f : List UInt8 → Option (Int × Int)} {l : List Sc} {s : ByteArray} {k : Nat} {x : Int × Int} (hr : Rows' f l) (hp : PlaceD l s k false) (hx : 0 ≤ x.1 ∧ x.1 ≤ 1099511627776 ∧ 0 ≤ x.2 ∧ x.2 ≤ 1099511627776) (hs : s.size ≤ 24) : Rows' (put f s.data.toList x) (l.take k ++ (s, x) :: l.drop k) := by
  have hno := (place_src hr hp).2 rfl
  obtain ⟨h1, h2, h3, h4⟩ := hp
  have hlt : ∀ y ∈ l.take k, ltN y.1 s := fun y hy => by
    obtain ⟨j, hj⟩ := List.mem_iff_getElem?.1 hy
    rw [List.getElem?_take] at hj
    split at hj
    · rename_i h
      exact h2 j y h hj
    · cases hj
  have hne : ∀ y ∈ l, y.1 ≠ s := fun y hy e => by
    have := (hr.mem y.1 y.2).2 hy
    rw [e, hno] at this
    cases this
  have hgt : ∀ y ∈ l.drop k, ltN s y.1 := fun y hy => by
    obtain ⟨j, hj⟩ := List.mem_iff_getElem?.1 hy
    rw [List.getElem?_drop] at hj
    have hjl := (List.getElem?_eq_some_iff.1 hj).1
    have hkl : k < l.length := by omega
    have h5 := ltN_of (h3 _ (List.getElem?_eq_getElem hkl)) (hne _ (List.getElem_mem hkl))
    rcases Nat.eq_zero_or_pos j with h0 | h0
    · subst h0
      rw [Nat.add_zero, List.getElem?_eq_getElem hkl] at hj
      cases hj
      exact h5
    · have := List.pairwise_iff_getElem.1 hr.asc k (k + j) hkl hjl (by omega)
      rw [(List.getElem?_eq_some_iff.1 hj).2] at this
      exact ltN_trans h5 this
  have hd : l.take k ++ l.drop k = l := List.take_append_drop k l
  have hasc := hr.asc
  rw [← hd, List.pairwise_append] at hasc
  refine ⟨List.pairwise_append.2 ⟨hasc.1, List.pairwise_cons.2 ⟨fun y hy => hgt y hy, hasc.2.1⟩, fun a ha b hb => ?_⟩, fun t z => ?_, fun z hz => ?_⟩
  · rcases List.mem_cons.1 hb with rfl | hb
    · exact hlt a ha
    · exact hasc.2.2 a ha b hb
  · rw [put_same, List.mem_append, List.mem_cons]
    by_cases e : t = s
    · subst e
      rw [if_pos rfl]
      constructor
      · intro h
        cases h
        exact Or.inr (Or.inl rfl)
      · rintro (h | h | h)
        · exact absurd rfl (hne _ (List.mem_of_mem_take h))
        · cases h; rfl
        · exact absurd rfl (hne _ (List.mem_of_mem_drop h))
    · rw [if_neg e, hr.mem t z]
      constructor
      · intro h
        rw [← hd, List.mem_append] at h
        rcases h with h | h
        · exact Or.inl h
        · exact Or.inr (Or.inr h)
      · rintro (h | h | h)
        · exact List.mem_of_mem_take h
        · cases h; exact absurd rfl e
        · exact List.mem_of_mem_drop h
  · rcases List.mem_append.1 hz with h | h
    · exact hr.ok z (List.mem_of_mem_take h)
    · rcases List.mem_cons.1 h with rfl | h
      · exact ⟨hx.1, hx.2.1, hx.2.2.1, hx.2.2.2, hs⟩
      · exact hr.ok z (List.mem_of_mem_drop h)
theorem name_24 {s : ByteArray} (h : nameB s = true) : s.size ≤ 24 := by
  unfold nameB at h
  simp at h
  exact h.1.2

/-! ### the walk -/
def HearsV (c : Ck) (s : ByteArray) (at_ now : Int) (v : Value) (c' : Ck) : Prop := ∃ res, v = .bool res ∧ Hears c s at_ now res c'
set_option maxHeartbeats 8000000 in
set_option maxRecDepth 100000 in
theorem rhear_any (D db N : Nat) (c : Ck) (s : ByteArray) (at_ now : Int) (w : World) (hN : N < 10000) (hsz : s.size ≤ maxLen) (h : DocAt w D db N c) :
    Calls Tryd.prog 13 #[.pointer (some ⟨db, 0, none⟩), .string s, .int .i64 at_, .int .i64 now] w fun e w' => ∃ v c', e = .returned v ∧ HearsV c s at_ now v c' ∧ DocAt w' D db (N + 1) c' ∧ Kept (fun i => i = db) w w' := by
  have HTK := Lib.hid (rtick_any D db N c now w (by omega) h)
  obtain ⟨i0, hi0, hz0, hz1, hz2⟩ := info_parts sc_info
  clear h
  go_enter Tryd.func13, Tryd.ntmps13
  go_wp2_with fail
  refine HTK.out.mono ?_
  rintro e w1 ⟨c1, rfl, ht, h1, hk1⟩
  have HT1 := Lib.hid ht
  have HK := Lib.hid hk1
  have HNM := Lib.hid (rname_any s w1 hsz)
  obtain ⟨A, cc, l, hl, h1⟩ := h1
  have H := Lib.hid h1
  have HLL := Lib.hid hl
  obtain ⟨n, hn⟩ : ∃ n, l.length = n := ⟨_, rfl⟩
  have HN := Lib.hid hn
  have k3 : w1.cell? ⟨db, 3, none⟩ = some (.int .i64 c1.mark) := h1.blk.cell 3
  have hnN : n ≤ N := by omega
  clear ht hk1 h1 HTK hl hn
  go_wp2_with fail
  refine HNM.out.mono ?_
  rintro e w2 ⟨rfl, rfl⟩
  clear HNM
  have fin : ¬ Fits c1 s at_ → Hid (∃ v c', Ending.returned (Value.bool false) = .returned v ∧ HearsV c s at_ now v c' ∧ DocAt w1 D db (N + 1) c' ∧ Kept (fun i => i = db) w w1) := by
    intro hf
    exact ⟨_, c1, rfl, ⟨false, rfl, c1, HT1.out, Or.inl ⟨rfl, rfl, hf⟩⟩, ⟨A, cc, l, by have := HLL.out; omega, H.out⟩, HK.out⟩
  cases hnm : nameB s
  · have hf := fin (by unfold Fits; simp [hnm])
    clear fin
    go_wp2_with fail
    go_ret
    exact hf.out
  by_cases a0 : at_ < 0
  · have hf := fin (by unfold Fits; omega)
    clear fin
    go_wp2_with fail
    go_ret
    exact hf.out
  by_cases a1 : 1099511627776 < at_
  · have hf := fin (by unfold Fits; omega)
    clear fin
    go_wp2_with fail
    go_ret
    exact hf.out
  by_cases a2 : at_ ≤ c1.mark
  · have hf := fin (by unfold Fits; omega)
    clear fin
    go_wp2_with fail
    go_ret
    exact hf.out
  clear fin
  have HFIT : Hid (Fits c1 s at_) := Lib.hid ⟨hnm, by omega, by omega, by omega⟩
  have HNM24 := Lib.hid (name_24 hnm)
  have HPL := Lib.hid (place_any D db cc n A l c1 s w1 HN.out (by omega) H.out)
  go_wp2_with fail
  refine HPL.out.mono ?_
  rintro e w2 ⟨k, b, _, rfl, rfl, hp, hb2⟩
  obtain ⟨hp1, hp2⟩ := place_src H.out.rows hp
  have HB2 := Lib.hid hb2
  have HP := Lib.hid hp
  have HSC2 : Hid (∀ V, Below w1.heap.size w1 V → V.cell? ⟨db, 4, none⟩ = some (.slice A n cc)) := Lib.hid (fun V hV => by
    have k := (H.out.below hV).blk
    rw [HN.out] at k
    exact k.cell 4)
  have HSN : Hid (∀ V, Below w1.heap.size w1 V → V.cell? ⟨db, 2, none⟩ = some (.int .i64 c1.now)) := Lib.hid (fun V hV => (H.out.below hV).blk.cell 2)
  have HLT : Hid (db < w1.heap.size) := Lib.hid H.out.blk.lt
  have HROW : Hid (∀ V, Below w1.heap.size w1 V → RowIn V w1.heap.size 3 A n (l.flatMap scC)) := Lib.hid (fun V hV => by
    have := H.out.row
    rw [HN.out] at this
    exact this.below hV)
  have HNIL : Hid (A = none → cc = 0) := Lib.hid H.out.nc
  have hcap : n ≤ cc := by have := H.out.cap; have := HN.out; omega
  have hkn : k ≤ n := by have := hp.1; have := HN.out; omega
  clear hb2 hp HPL k3 hnm
  have HO3 := Lib.hid (own_empty w2 54 3)
  have HB3 : Hid (Below w1.heap.size w1 (w2.alloc (.cells #[] 54))) := Lib.hid (HB2.out.alloc HB2.out.size _)
  have HR3 := Lib.hid (HROW.out _ HB3.out)
  have c3 : (w2.alloc (.cells #[] 54)).cell? ⟨db, 4, none⟩ = some (.slice A n cc) := HSC2.out _ HB3.out
  have hz3 : w2.heap.size ≤ (w2.alloc (.cells #[] 54)).heap.size := by simp
  go_wp2_with (first
    | (at_builtin; refine wpList_append_row _ rfl _ _ 47 rfl w2.heap.size 54 i0 _ 3 32 Tryd.underlying47 hi0 hz0 hz1 hz2 rfl (by omega) (.slice (some ⟨w2.heap.size, 0, none⟩) 0 0) 0 _ rfl HO3.out w1.heap.size A n cc _ rfl HR3.out HNIL.out (scC_one l) (by unfold maxLen; omega) (by omega) hz3 ?_; intro vE wE hoE hgE hvE; refine Hid.out ?_))
  have HB5 : Hid (Below w1.heap.size w1 wE) := Lib.hid ((((Kept.refl (fun _ => False) w1).below HB3.out (Nat.le_refl _)).grown hgE (fun j hj => by cases hj; exact Or.inr HB2.out.size)).toBelow (fun i hi => hi.elim) (Nat.le_refl _))
  obtain ⟨A3, c3', hv⟩ := own_shape hoE
  subst hv
  rw [Nat.zero_add] at hoE ⊢
  rw [List.nil_append] at hoE
  have HO5 : Hid (wE.ownsRow w2.heap.size 54 3 (.slice A3 n c3') n (l.flatMap scC)) := Lib.hid hoE
  have HZ2 : Hid (w1.heap.size ≤ w2.heap.size) := Lib.hid HB2.out.size
  clear hoE hgE hvE c3 HO3 HR3 HB3 hz3
  obtain ⟨wb, rfl⟩ : ∃ wb, wb = wE := ⟨_, rfl⟩
  have hbz : w1.heap.size ≤ wb.heap.size := HB5.out.size
  cases b
  case true =>
    obtain ⟨⟨y1, y2⟩, hx, hs⟩ := hp1 rfl
    have hkl := (List.getElem?_eq_some_iff.1 hx).1
    obtain ⟨b1, b2, b3, b4, _⟩ := H.out.rows.ok _ (List.mem_of_getElem? hx)
    dsimp only at b1 b2 b3 b4
    have hk8 : (k : Int) < (n : Int) := by have := HN.out; omega
    have hk9 : (0 : Int) ≤ (k : Int) := by omega
    have HFORM := HO5.out.form (by omega)
    obtain ⟨g, cap, hv, hgb, hgl⟩ := HFORM
    injection hv with hA _ hC
    subst hA
    have HCE := Lib.hid hC
    have HGB : Hid (w2.heap.size ≤ g ∧ g < wb.heap.size) := Lib.hid ⟨hgb, hgl⟩
    have e1 : wb.cell? ⟨g, k * 3 + 1, none⟩ = some (.int .i64 y1) := by
      have := HO5.out.cells (g := g) rfl (k * 3 + 1) (.int .i64 y1) (by rw [flat_get scC 3 scC_len l k 1 _ hx (by omega)]; rfl)
      rw [at_add, Nat.zero_add] at this
      exact this
    have HMX : Hid (0 ≤ max y1 at_ ∧ max y1 at_ ≤ 1099511627776 ∧ 0 ≤ c1.now ∧ c1.now ≤ 1099511627776) := Lib.hid ⟨by omega, by omega, H.out.ok.n0, H.out.ok.n1⟩
    have HSRC : Hid ((Heard' c1 s at_).src = put c1.src s.data.toList (max y1 at_, c1.now)) := Lib.hid (by unfold Heard'; rw [hs]; rfl)
    have HRW : Hid (Rows' (Heard' c1 s at_).src (l.set k (s, max y1 at_, c1.now))) := Lib.hid (by rw [HSRC.out]; exact rows_set H.out.rows hx HMX.out)
    have HNL : Hid ((l.set k (s, max y1 at_, c1.now)).length = n) := Lib.hid (by rw [List.length_set]; exact HN.out)
    have HLEN : Hid ((l.set k (s, max y1 at_, c1.now)).length ≤ N + 1) := Lib.hid (by rw [HNL.out]; omega)
    have HSC : Hid (∀ V, Below wb.heap.size wb V → V.cell? ⟨db, 2, none⟩ = some (.int .i64 c1.now) ∧ V.cell? ⟨g, k * 3 + 1, none⟩ = some (.int .i64 y1)) := Lib.hid (fun V hV => ⟨HSN.out V (HB5.out.trans (hV.mono hbz)), (hV.cell (p := ⟨g, _, none⟩) hgl).trans e1⟩)
    have HS0 : Hid (Below wb.heap.size wb wb.drew) := Lib.hid (Go.Proofs.YtobkgkiomapabaaDoor.below_drew (Below.refl _ _))
    have HST := Lib.hid (own_set3 (w := wb.drew) (HO5.out) (k := k) (by rw [HN.out]; omega) (s, max y1 at_, c1.now))
    have HTH : Hid (wb.drew.there g (k * 3) 3) := Lib.hid (fun j hj => by
      rcases HO5.out.2 with ⟨h0, _⟩ | ⟨g', cap', cur', h0, _, hg', hle, _, hcs, _⟩
      · cases h0
      · injection h0 with h1
        injection h1 with h1
        injection h1 with h1
        subst h1
        have hB : Blk wb g 54 cur' := hg'
        refine ⟨?_, hB.frozen _⟩
        show (wb.cell? _).isSome = true
        rw [hB.cell, Array.getElem?_eq_getElem (by rw [hcs]; have := HN.out; omega)]
        rfl)
    have HGR : Hid (wb.drew.grownBy (wb.drew.setCells g (k * 3) (scC (s, max y1 at_, c1.now))) (some g)) := Lib.hid HST.out.2
    clear hp1 hp2 hx hs hC hgb hgl e1
    refine Lib.hid ?_
    go_wp2_with fail
    refine wp_planN (fun V => Below wb.heap.size wb V) [(0, 1), (1, 1), (2, 1), (3, 1), (4, 1), (5, 1), (6, 1), (7, 1), (8, 1), (10, 1), (11, 1), (12, 1), (13, 1), (9, 2), (14, 1), (15, 1), (16, 3)] (by kernel_rfl) (by kernel_rfl) HS0.out ?_
    simp only [planNL, List.getElem?_cons_zero, List.getElem?_cons_succ]
    repeat (refine planN_on _ (by rfl) (fun W hW => by (obtain ⟨y0, y1⟩ := HSC.out W hW; go_simp; try with_reducible rfl)) ?_; simp only [Act.put, List.setIfInBounds_toArray, List.set_cons_zero, List.set_cons_succ])
    refine planN_turn ?_
    go_wp2_with fail
    refine ⟨HS0.out, ?_⟩
    repeat (refine planN_on _ (by rfl) (fun W hW => by (obtain ⟨y0, y1⟩ := HSC.out W hW; go_simp; try with_reducible rfl)) ?_; simp only [Act.put, List.setIfInBounds_toArray, List.set_cons_zero, List.set_cons_succ])
    refine planN_last ?_
    refine wpList_store_mid rfl 54 _ _ rfl g (k * 3) #[.string s, .int .i64 (max y1 at_), .int .i64 c1.now] rfl rfl HTH.out (by kernel_rfl) (by simp [Value.oneCell']) ?_
    have HO4 := Lib.hid HST.out.1
    have HB4 : Hid (Below w1.heap.size w1 (wb.drew.setCells g (k * 3) (scC (s, max y1 at_, c1.now)))) := Lib.hid ((((Kept.refl (fun _ => False) w1).below (below_drew HB5.out) (Nat.le_refl _)).grown HGR.out (fun j hj => by cases hj; exact Or.inr (by have := HGB.out.1; have := HZ2.out; omega))).toBelow (fun i hi => hi.elim) (Nat.le_refl _))
    obtain ⟨w4, hw4⟩ : ∃ w4, wb.drew.setCells g (k * 3) (scC (s, max y1 at_, c1.now)) = w4 := ⟨_, rfl⟩
    have hw4' : wb.drew.setCells g (k * 3) #[.string s, .int .i64 (max y1 at_), .int .i64 c1.now].toList = w4 := hw4
    rw [hw4] at HO4 HB4
    rw [hw4']
    have HLT2 : Hid (db < w2.heap.size) := Lib.hid (by have := HLT.out; have := HZ2.out; omega)
    clear hw4 hw4' HST HTH HGR
    go_wp2_with fail
    refine planN_done ?_
    obtain ⟨A4, hA4⟩ : ∃ A4 : Option Addr, some ⟨g, 0, none⟩ = A4 := ⟨_, rfl⟩
    obtain ⟨c4, hc4⟩ : ∃ c4 : Nat, c3' = c4 := ⟨_, rfl⟩
    rw [hA4, hc4] at HO4 ⊢
    clear hA4 hc4
    have HD5 := Lib.hid (doc_store (H.out.below HB4.out) HO4.out HLT2.out HNL.out HRW.out rfl rfl rfl rfl)
    have HK5 : Hid (Kept (fun i => i = db) w (w4.setCell ⟨db, 4, none⟩ (.slice A4 n c4))) := Lib.hid ((HK.out.below HB4.out HK.out.size).setCell (p := ⟨db, 4, none⟩) (Or.inl rfl) _)
    have f5 : w4.frozen? ⟨db, 4, none⟩ = false := (H.out.below HB4.out).blk.frozen 4
    have k5 : w4.cell? ⟨db, 4, none⟩ = some (.slice A n cc) := HSC2.out w4 HB4.out
    obtain ⟨w5, hw5⟩ : ∃ w5, w4.setCell ⟨db, 4, none⟩ (.slice A4 n c4) = w5 := ⟨_, rfl⟩
    rw [hw5] at HD5 HK5
    refine Lib.hid ?_
    go_wp2_with fail
    try clear hw5
    clear f5 k5
    have HS5 : Hid (∀ V, Below w5.heap.size w5 V → V.cell? ⟨db, 3, none⟩ = some (.int .i64 c1.mark)) := Lib.hid (fun V hV => (HD5.out.below hV).blk.cell 3)
    have HTL := Lib.hid (tell_any D db c4 _ A4 _ _ w5.drew HNL.out (by omega) (HD5.out.keep (w' := w5.drew) (Nat.le_refl _) (fun _ _ _ => rfl)))
    have HSD : Hid (Below w5.heap.size w5 w5.drew) := Lib.hid (Go.Proofs.YtobkgkiomapabaaDoor.below_drew (Below.refl _ _))
    refine wp_planN (fun V => Below w5.heap.size w5 V) [(0, 1), (1, 1), (2, 1), (3, 1), (4, 1), (5, 1), (6, 2), (7, 2), (8, 1), (9, 1), (10, 3)] (by kernel_rfl) (by kernel_rfl) HSD.out ?_
    simp only [planNL, List.getElem?_cons_zero, List.getElem?_cons_succ]
    repeat (refine planN_on _ (by rfl) (fun W hW => by (have x0 := HS5.out W hW; go_simp; try with_reducible rfl)) ?_; simp only [Act.put, List.setIfInBounds_toArray, List.set_cons_zero, List.set_cons_succ])
    refine planN_turn ?_
    go_wp2_with fail
    refine HTL.out.mono ?_
    rintro e w6 ⟨v, rfl, htl, hb6⟩
    have HT := Lib.hid htl
    have HB6 : Hid (Below w5.heap.size w5 w6) := Lib.hid (HSD.out.trans hb6)
    clear htl hb6 HTL
    go_wp2_with fail
    refine ⟨HB6.out, ?_⟩
    refine planN_turn ?_
    go_wp2_with fail
    refine ⟨HB6.out, ?_⟩
    repeat (refine planN_on _ (by rfl) (fun W hW => by (have x0 := HS5.out W hW; go_simp; try with_reducible rfl)) ?_; simp only [Act.put, List.setIfInBounds_toArray, List.set_cons_zero, List.set_cons_succ])
    have f6 : w6.frozen? ⟨db, 3, none⟩ = false := (HD5.out.below HB6.out).blk.frozen 3
    have k6 : w6.cell? ⟨db, 3, none⟩ = some (.int .i64 c1.mark) := HS5.out w6 HB6.out
    refine planN_last ?_
    go_wp2_with fail
    refine planN_done ?_
    have HR := Lib.hid (tells_rose HT.out HD5.out.ok)
    have H7 := Lib.hid ((HD5.out.below HB6.out).set 3 (.int .i64 (max c1.mark v)) (c' := { Heard' c1 s at_ with mark := max (Heard' c1 s at_).mark v }) (by simp [Heard']) rfl (tells_ok HT.out HD5.out.rows HD5.out.ok))
    have HK7 : Hid (Kept (fun i => i = db) w (w6.setCell ⟨db, 3, none⟩ (.int .i64 (max c1.mark v)))) := Lib.hid ((HK5.out.below HB6.out HK5.out.size).setCell (p := ⟨db, 3, none⟩) (Or.inl rfl) _)
    obtain ⟨w7, hw7⟩ : ∃ w7, w6.setCell ⟨db, 3, none⟩ (.int .i64 (max c1.mark v)) = w7 := ⟨_, rfl⟩
    rw [hw7] at H7 HK7 ⊢
    clear hw7 f6 k6
    go_wp2_with fail
    go_ret
    exact ⟨_, rfl, _, ⟨true, rfl, c1, HT1.out, Or.inr ⟨rfl, HFIT.out, HR.out⟩⟩, ⟨_, _, _, HLEN.out, H7.out⟩, HK7.out⟩
  case false =>
    have HMX : Hid (0 ≤ at_ ∧ at_ ≤ 1099511627776 ∧ 0 ≤ c1.now ∧ c1.now ≤ 1099511627776) := Lib.hid ⟨by omega, by omega, H.out.ok.n0, H.out.ok.n1⟩
    have HSRC : Hid ((Heard' c1 s at_).src = put c1.src s.data.toList (at_, c1.now)) := Lib.hid (by
      unfold Heard'
      rw [hp2 rfl]
      show put c1.src s.data.toList (max 0 at_, c1.now) = _
      rw [show max 0 at_ = at_ from by omega])
    have HRW : Hid (Rows' (Heard' c1 s at_).src (l.take k ++ (s, at_, c1.now) :: l.drop k)) := Lib.hid (by rw [HSRC.out]; exact rows_ins H.out.rows HP.out HMX.out HNM24.out)
    have HNL : Hid ((l.take k ++ (s, at_, c1.now) :: l.drop k).length = n + 1) := Lib.hid (by have := HN.out; simp; omega)
    have HLEN : Hid ((l.take k ++ (s, at_, c1.now) :: l.drop k).length ≤ N + 1) := Lib.hid (by rw [HNL.out]; omega)
    have HLS : Hid (k + 1 + (n - k) = n + 1) := Lib.hid (by omega)
    have HLF : Hid ((l.take k).flatMap scC ++ scC (s, at_, c1.now) ++ (l.drop k).flatMap scC = (l.take k ++ (s, at_, c1.now) :: l.drop k).flatMap scC) := Lib.hid (by rw [List.flatMap_append, List.flatMap_cons, List.append_assoc])
    have HNI2 : Hid ((if cc = k then A else A.map (·.add (k * 3))) = none → cc - k = 0) := Lib.hid (fun h => by
      split at h
      · omega
      · have : A = none := by simpa using h
        have := HNIL.out this
        omega)
    have HCUT : Hid (∀ V, Below w1.heap.size w1 V → RowIn V w1.heap.size 3 (if cc = k then A else A.map (·.add (k * 3))) (n - k) ((l.drop k).flatMap scC)) := Lib.hid (fun V hV => by
      have := (HROW.out V hV).cut hkn hcap
      rw [flat_drop scC 3 scC_len] at this
      exact this)
    have hk9 : (0 : Int) ≤ (k : Int) := by omega
    have hk7 : (k : Int) ≤ (n : Int) := by omega
    have hk6 : (k : Int) ≤ (cc : Int) := by omega
    have hk5 : (n : Int) ≤ (cc : Int) := by omega
    have HSC : Hid (∀ V, Below w1.heap.size w1 V → V.cell? ⟨db, 4, none⟩ = some (.slice A n cc) ∧ V.cell? ⟨db, 2, none⟩ = some (.int .i64 c1.now)) := Lib.hid (fun V hV => ⟨HSC2.out V hV, HSN.out V hV⟩)
    have HBD : Hid (Below w1.heap.size w1 wb.drew) := Lib.hid (below_drew HB5.out)
    clear hp1 hp2 HO5
    refine Lib.hid ?_
    go_wp2_with fail
    refine wp_planT (fun V => Below w1.heap.size w1 V) (.take 1 (.take 2 (.take 3 (.take 4 (.take 5 (.take 6 (.take 8 (.take 9 (.take 10 (.take 11 (.take 12 (.take 13 (.take 14 (.take 17 (.take 18 (.take 19 (.take 20 (.take 21 (.take 22 (.fork 0 (.fork 7 (.turn 15 (.turn 16 (.turn 23 (.take 24 .done)))) 15 (.turn 7 (.turn 16 (.turn 23 (.take 24 .done))))) 15 (.turn 0 (.turn 7 (.turn 16 (.turn 23 (.take 24 .done))))))))))))))))))))))))) (by kernel_rfl) (by kernel_rfl) HBD.out ?_
    simp only [planTL, List.getElem?_cons_zero, List.getElem?_cons_succ]
    obtain ⟨wd, hwd⟩ : ∃ wd, wb.drew = wd := ⟨_, rfl⟩
    rw [hwd] at HBD ⊢
    clear hwd
    repeat (refine planT_on _ (by rfl) (fun W hW => by (obtain ⟨y0, y1⟩ := HSC.out W hW; go_simp; try (first | with_reducible rfl | omega))) ?_; simp only [Act.put, List.setIfInBounds_toArray, List.set_cons_zero, List.set_cons_succ])
    obtain ⟨AX, hAX⟩ : ∃ AX, (if cc = k then A else A.map (·.add (k * 3))) = AX := ⟨_, rfl⟩
    rw [hAX] at HNI2 HCUT ⊢
    clear hAX
    refine planT_fork ?_ ?_
    case refine_1 =>
      obtain ⟨x1, hx1⟩ : ∃ x1, wd.alloc (.cells #[] 54) = x1 := ⟨_, rfl⟩
      have Bx1 : Hid (Below w1.heap.size w1 x1) := Lib.hid (by rw [← hx1]; exact HBD.out.alloc HBD.out.size _)
      have Zx1 : Hid (x1.heap.size = wd.heap.size + 1) := Lib.hid (by rw [← hx1]; simp)
      have Ox1 : Hid (x1.ownsRow wd.heap.size 54 3 (.slice (some ⟨wd.heap.size, 0, none⟩) 0 0) 0 []) := Lib.hid (by rw [← hx1]; exact own_empty _ _ _)
      go_wp2_with fail
      try rw [hx1]
      clear hx1
      refine ⟨Bx1.out, ?_⟩
      refine planT_fork ?_ ?_
      case refine_1 =>
        have HRx2 := Lib.hid ((HROW.out _ Bx1.out).front hkn)
        rw [flat_take scC 3 scC_len] at HRx2
        have hzx2 : w1.heap.size ≤ x1.heap.size := Bx1.out.size
        have HOMx2 := Lib.hid (own_mono Ox1.out (base' := w1.heap.size) (by have := HBD.out.size; have := Zx1.out; omega))
        go_wp2_with (first | (at_builtin; refine wpList_append_row _ rfl _ _ 47 rfl w1.heap.size 54 i0 _ 3 32 Tryd.underlying47 hi0 hz0 hz1 hz2 rfl (by omega) (.slice (some ⟨wd.heap.size, 0, none⟩) 0 0) 0 _ rfl HOMx2.out w1.heap.size A k cc _ rfl HRx2.out HNIL.out (scC_one (l.take k)) (by unfold maxLen; omega) (by omega) hzx2 ?_; intro vP wP hoP hgP hvP))
        obtain ⟨AP, cP, hv⟩ := own_shape hoP
        subst hv
        rw [Nat.zero_add] at hoP ⊢
        rw [List.nil_append] at hoP
        have BwP : Hid (Below w1.heap.size w1 wP) := Lib.hid ((((Kept.refl (fun _ => False) w1).below Bx1.out (Nat.le_refl _)).grown hgP (fun j hj => Or.inr (HOMx2.out.lt _ hj).1)).toBelow (fun i hi => hi.elim) (Nat.le_refl _))
        have OwP := Lib.hid hoP
        have ZwP : Hid (x1.heap.size ≤ wP.heap.size) := Lib.hid hgP.size
        clear hoP hgP hvP
        refine ⟨BwP.out, ?_⟩
        refine planT_turn ?_
        obtain ⟨x3, hx3⟩ : ∃ x3, wP.alloc (.cells #[.string s, .int .i64 at_, .int .i64 c1.now] 54) = x3 := ⟨_, rfl⟩
        have Bx3 : Hid (Below w1.heap.size w1 x3) := Lib.hid (by rw [← hx3]; exact BwP.out.alloc BwP.out.size _)
        have Zx3 : Hid (x3.heap.size = wP.heap.size + 1) := Lib.hid (by rw [← hx3]; simp)
        have Rx3 : Hid (RowIn x3 (wP.heap.size + 1) 3 (some ⟨wP.heap.size, 0, none⟩) 1 (scC (s, at_, c1.now))) := Lib.hid (by rw [← hx3]; exact one_sc _ (s, at_, c1.now) _)
        have Ox3 : Hid (x3.ownsRow w1.heap.size 54 3 (.slice AP k cP) k ((l.take k).flatMap scC)) := Lib.hid (by rw [← hx3]; exact OwP.out.alloc _)
        go_wp2_with fail
        try rw [hx3]
        clear hx3
        refine ⟨Bx3.out, ?_⟩
        refine planT_turn ?_
        have hzq : w1.heap.size ≤ x3.heap.size := Bx3.out.size
        have HONE : Hid (∀ u ∈ scC (s, at_, c1.now), u.oneCell' = true) := Lib.hid (fun u hu => scC_one [(s, at_, c1.now)] u (by simpa using hu))
        go_wp2_with (first | (at_builtin; refine wpList_append_row _ rfl _ _ 47 rfl w1.heap.size 54 i0 _ 3 32 Tryd.underlying47 hi0 hz0 hz1 hz2 rfl (by omega) (.slice AP k cP) k _ rfl Ox3.out (wP.heap.size + 1) (some ⟨wP.heap.size, 0, none⟩) 1 1 _ rfl Rx3.out (fun h => by cases h) HONE.out (by unfold maxLen; omega) (by omega) hzq ?_; intro vQ wQ hoQ hgQ hvQ))
        obtain ⟨AQ, cQ, hv⟩ := own_shape hoQ
        subst hv
        have BwQ : Hid (Below w1.heap.size w1 wQ) := Lib.hid ((((Kept.refl (fun _ => False) w1).below Bx3.out (Nat.le_refl _)).grown hgQ (fun j hj => Or.inr (Ox3.out.lt _ hj).1)).toBelow (fun i hi => hi.elim) (Nat.le_refl _))
        have OwQ := Lib.hid hoQ
        clear hoQ hgQ hvQ
        refine ⟨BwQ.out, ?_⟩
        refine planT_turn ?_
        have HRq := Lib.hid (HCUT.out _ BwQ.out)
        have hzr : w1.heap.size ≤ wQ.heap.size := BwQ.out.size
        go_wp2_with (first | (at_builtin; refine wpList_append_row _ rfl _ _ 47 rfl w1.heap.size 54 i0 _ 3 32 Tryd.underlying47 hi0 hz0 hz1 hz2 rfl (by omega) (.slice AQ (k + 1) cQ) (k + 1) _ rfl OwQ.out w1.heap.size AX (n - k) (cc - k) _ rfl HRq.out HNI2.out (scC_one (l.drop k)) (by unfold maxLen; omega) (by omega) hzr ?_; intro vR wR hoR hgR hvR))
        obtain ⟨A4, c4, hv⟩ := own_shape hoR
        subst hv
        have HB4 : Hid (Below w1.heap.size w1 wR) := Lib.hid ((((Kept.refl (fun _ => False) w1).below BwQ.out (Nat.le_refl _)).grown hgR (fun j hj => Or.inr (OwQ.out.lt _ hj).1)).toBelow (fun i hi => hi.elim) (Nat.le_refl _))
        have HO4 : Hid (wR.ownsRow w1.heap.size 54 3 (.slice A4 (n + 1) c4) (n + 1) ((l.take k ++ (s, at_, c1.now) :: l.drop k).flatMap scC)) := Lib.hid (by rw [← HLF.out, ← HLS.out]; exact hoR)
        have HEQN := HLS.out
        rw [HEQN]
        clear hoR hgR hvR HEQN
        refine ⟨HB4.out, ?_⟩
        repeat (refine planT_on _ (by rfl) (fun W hW => by (go_simp; try with_reducible rfl)) ?_; simp only [Act.put, List.setIfInBounds_toArray, List.set_cons_zero, List.set_cons_succ])
        refine planT_done ?_
        obtain ⟨w4, rfl⟩ : ∃ w4, w4 = wR := ⟨_, rfl⟩
        have HD5 := Lib.hid (doc_store (H.out.below HB4.out) HO4.out HLT.out HNL.out HRW.out rfl rfl rfl rfl)
        have HK5 : Hid (Kept (fun i => i = db) w (w4.setCell ⟨db, 4, none⟩ (.slice A4 (n + 1) c4))) := Lib.hid ((HK.out.below HB4.out HK.out.size).setCell (p := ⟨db, 4, none⟩) (Or.inl rfl) _)
        have f5 : w4.frozen? ⟨db, 4, none⟩ = false := (H.out.below HB4.out).blk.frozen 4
        have k5 : w4.cell? ⟨db, 4, none⟩ = some (.slice A n cc) := HSC2.out w4 HB4.out
        obtain ⟨w5, hw5⟩ : ∃ w5, w4.setCell ⟨db, 4, none⟩ (.slice A4 (n + 1) c4) = w5 := ⟨_, rfl⟩
        rw [hw5] at HD5 HK5
        refine Lib.hid ?_
        go_wp2_with fail
        try clear hw5
        clear f5 k5
        have HS5 : Hid (∀ V, Below w5.heap.size w5 V → V.cell? ⟨db, 3, none⟩ = some (.int .i64 c1.mark)) := Lib.hid (fun V hV => (HD5.out.below hV).blk.cell 3)
        have HTL := Lib.hid (tell_any D db c4 _ A4 _ _ w5.drew HNL.out (by omega) (HD5.out.keep (w' := w5.drew) (Nat.le_refl _) (fun _ _ _ => rfl)))
        have HSD : Hid (Below w5.heap.size w5 w5.drew) := Lib.hid (Go.Proofs.YtobkgkiomapabaaDoor.below_drew (Below.refl _ _))
        refine wp_planN (fun V => Below w5.heap.size w5 V) [(0, 1), (1, 1), (2, 1), (3, 1), (4, 1), (5, 1), (6, 2), (7, 2), (8, 1), (9, 1), (10, 3)] (by kernel_rfl) (by kernel_rfl) HSD.out ?_
        simp only [planNL, List.getElem?_cons_zero, List.getElem?_cons_succ]
        repeat (refine planN_on _ (by rfl) (fun W hW => by (have x0 := HS5.out W hW; go_simp; try with_reducible rfl)) ?_; simp only [Act.put, List.setIfInBounds_toArray, List.set_cons_zero, List.set_cons_succ])
        refine planN_turn ?_
        go_wp2_with fail
        refine HTL.out.mono ?_
        rintro e w6 ⟨v, rfl, htl, hb6⟩
        have HT := Lib.hid htl
        have HB6 : Hid (Below w5.heap.size w5 w6) := Lib.hid (HSD.out.trans hb6)
        clear htl hb6 HTL
        go_wp2_with fail
        refine ⟨HB6.out, ?_⟩
        refine planN_turn ?_
        go_wp2_with fail
        refine ⟨HB6.out, ?_⟩
        repeat (refine planN_on _ (by rfl) (fun W hW => by (have x0 := HS5.out W hW; go_simp; try with_reducible rfl)) ?_; simp only [Act.put, List.setIfInBounds_toArray, List.set_cons_zero, List.set_cons_succ])
        have f6 : w6.frozen? ⟨db, 3, none⟩ = false := (HD5.out.below HB6.out).blk.frozen 3
        have k6 : w6.cell? ⟨db, 3, none⟩ = some (.int .i64 c1.mark) := HS5.out w6 HB6.out
        refine planN_last ?_
        go_wp2_with fail
        refine planN_done ?_
        have HR := Lib.hid (tells_rose HT.out HD5.out.ok)
        have H7 := Lib.hid ((HD5.out.below HB6.out).set 3 (.int .i64 (max c1.mark v)) (c' := { Heard' c1 s at_ with mark := max (Heard' c1 s at_).mark v }) (by simp [Heard']) rfl (tells_ok HT.out HD5.out.rows HD5.out.ok))
        have HK7 : Hid (Kept (fun i => i = db) w (w6.setCell ⟨db, 3, none⟩ (.int .i64 (max c1.mark v)))) := Lib.hid ((HK5.out.below HB6.out HK5.out.size).setCell (p := ⟨db, 3, none⟩) (Or.inl rfl) _)
        obtain ⟨w7, hw7⟩ : ∃ w7, w6.setCell ⟨db, 3, none⟩ (.int .i64 (max c1.mark v)) = w7 := ⟨_, rfl⟩
        rw [hw7] at H7 HK7 ⊢
        clear hw7 f6 k6
        go_wp2_with fail
        go_ret
        exact ⟨_, rfl, _, ⟨true, rfl, c1, HT1.out, Or.inr ⟨rfl, HFIT.out, HR.out⟩⟩, ⟨_, _, _, HLEN.out, H7.out⟩, HK7.out⟩
      case refine_2 =>
        obtain ⟨x2, hx2⟩ : ∃ x2, x1.alloc (.cells #[.string s, .int .i64 at_, .int .i64 c1.now] 54) = x2 := ⟨_, rfl⟩
        have Bx2 : Hid (Below w1.heap.size w1 x2) := Lib.hid (by rw [← hx2]; exact Bx1.out.alloc Bx1.out.size _)
        have Zx2 : Hid (x2.heap.size = x1.heap.size + 1) := Lib.hid (by rw [← hx2]; simp)
        have Rx2 : Hid (RowIn x2 (x1.heap.size + 1) 3 (some ⟨x1.heap.size, 0, none⟩) 1 (scC (s, at_, c1.now))) := Lib.hid (by rw [← hx2]; exact one_sc _ (s, at_, c1.now) _)
        have Ox2 : Hid (x2.ownsRow wd.heap.size 54 3 (.slice (some ⟨wd.heap.size, 0, none⟩) 0 0) 0 []) := Lib.hid (by rw [← hx2]; exact Ox1.out.alloc _)
        go_wp2_with fail
        try rw [hx2]
        clear hx2
        refine ⟨Bx2.out, ?_⟩
        refine planT_turn ?_
        have HRx3 := Lib.hid ((HROW.out _ Bx2.out).front hkn)
        rw [flat_take scC 3 scC_len] at HRx3
        have hzx3 : w1.heap.size ≤ x2.heap.size := Bx2.out.size
        have HOMx3 := Lib.hid (own_mono Ox2.out (base' := w1.heap.size) (by have := HBD.out.size; have := Zx1.out; have := Zx2.out; omega))
        go_wp2_with (first | (at_builtin; refine wpList_append_row _ rfl _ _ 47 rfl w1.heap.size 54 i0 _ 3 32 Tryd.underlying47 hi0 hz0 hz1 hz2 rfl (by omega) (.slice (some ⟨wd.heap.size, 0, none⟩) 0 0) 0 _ rfl HOMx3.out w1.heap.size A k cc _ rfl HRx3.out HNIL.out (scC_one (l.take k)) (by unfold maxLen; omega) (by omega) hzx3 ?_; intro vP wP hoP hgP hvP))
        obtain ⟨AP, cP, hv⟩ := own_shape hoP
        subst hv
        rw [Nat.zero_add] at hoP ⊢
        rw [List.nil_append] at hoP
        have BwP : Hid (Below w1.heap.size w1 wP) := Lib.hid ((((Kept.refl (fun _ => False) w1).below Bx2.out (Nat.le_refl _)).grown hgP (fun j hj => Or.inr (HOMx3.out.lt _ hj).1)).toBelow (fun i hi => hi.elim) (Nat.le_refl _))
        have RwP : Hid (RowIn wP (x1.heap.size + 1) 3 (some ⟨x1.heap.size, 0, none⟩) 1 (scC (s, at_, c1.now))) := Lib.hid (row_grown Rx2.out (by have := Zx1.out; have := Zx2.out; omega) (by simp [Value.ownBlock]; have := Zx1.out; have := Zx2.out; omega) hgP)
        have OwP := Lib.hid hoP
        have ZwP : Hid (x2.heap.size ≤ wP.heap.size) := Lib.hid hgP.size
        clear hoP hgP hvP
        refine ⟨BwP.out, ?_⟩
        refine planT_turn ?_
        have hzq : w1.heap.size ≤ wP.heap.size := BwP.out.size
        have HONE : Hid (∀ u ∈ scC (s, at_, c1.now), u.oneCell' = true) := Lib.hid (fun u hu => scC_one [(s, at_, c1.now)] u (by simpa using hu))
        go_wp2_with (first | (at_builtin; refine wpList_append_row _ rfl _ _ 47 rfl w1.heap.size 54 i0 _ 3 32 Tryd.underlying47 hi0 hz0 hz1 hz2 rfl (by omega) (.slice AP k cP) k _ rfl OwP.out (x1.heap.size + 1) (some ⟨x1.heap.size, 0, none⟩) 1 1 _ rfl RwP.out (fun h => by cases h) HONE.out (by unfold maxLen; omega) (by omega) hzq ?_; intro vQ wQ hoQ hgQ hvQ))
        obtain ⟨AQ, cQ, hv⟩ := own_shape hoQ
        subst hv
        have BwQ : Hid (Below w1.heap.size w1 wQ) := Lib.hid ((((Kept.refl (fun _ => False) w1).below BwP.out (Nat.le_refl _)).grown hgQ (fun j hj => Or.inr (OwP.out.lt _ hj).1)).toBelow (fun i hi => hi.elim) (Nat.le_refl _))
        have OwQ := Lib.hid hoQ
        clear hoQ hgQ hvQ
        refine ⟨BwQ.out, ?_⟩
        refine planT_turn ?_
        have HRq := Lib.hid (HCUT.out _ BwQ.out)
        have hzr : w1.heap.size ≤ wQ.heap.size := BwQ.out.size
        go_wp2_with (first | (at_builtin; refine wpList_append_row _ rfl _ _ 47 rfl w1.heap.size 54 i0 _ 3 32 Tryd.underlying47 hi0 hz0 hz1 hz2 rfl (by omega) (.slice AQ (k + 1) cQ) (k + 1) _ rfl OwQ.out w1.heap.size AX (n - k) (cc - k) _ rfl HRq.out HNI2.out (scC_one (l.drop k)) (by unfold maxLen; omega) (by omega) hzr ?_; intro vR wR hoR hgR hvR))
        obtain ⟨A4, c4, hv⟩ := own_shape hoR
        subst hv
        have HB4 : Hid (Below w1.heap.size w1 wR) := Lib.hid ((((Kept.refl (fun _ => False) w1).below BwQ.out (Nat.le_refl _)).grown hgR (fun j hj => Or.inr (OwQ.out.lt _ hj).1)).toBelow (fun i hi => hi.elim) (Nat.le_refl _))
        have HO4 : Hid (wR.ownsRow w1.heap.size 54 3 (.slice A4 (n + 1) c4) (n + 1) ((l.take k ++ (s, at_, c1.now) :: l.drop k).flatMap scC)) := Lib.hid (by rw [← HLF.out, ← HLS.out]; exact hoR)
        have HEQN := HLS.out
        rw [HEQN]
        clear hoR hgR hvR HEQN
        refine ⟨HB4.out, ?_⟩
        repeat (refine planT_on _ (by rfl) (fun W hW => by (go_simp; try with_reducible rfl)) ?_; simp only [Act.put, List.setIfInBounds_toArray, List.set_cons_zero, List.set_cons_succ])
        refine planT_done ?_
        obtain ⟨w4, rfl⟩ : ∃ w4, w4 = wR := ⟨_, rfl⟩
        have HD5 := Lib.hid (doc_store (H.out.below HB4.out) HO4.out HLT.out HNL.out HRW.out rfl rfl rfl rfl)
        have HK5 : Hid (Kept (fun i => i = db) w (w4.setCell ⟨db, 4, none⟩ (.slice A4 (n + 1) c4))) := Lib.hid ((HK.out.below HB4.out HK.out.size).setCell (p := ⟨db, 4, none⟩) (Or.inl rfl) _)
        have f5 : w4.frozen? ⟨db, 4, none⟩ = false := (H.out.below HB4.out).blk.frozen 4
        have k5 : w4.cell? ⟨db, 4, none⟩ = some (.slice A n cc) := HSC2.out w4 HB4.out
        obtain ⟨w5, hw5⟩ : ∃ w5, w4.setCell ⟨db, 4, none⟩ (.slice A4 (n + 1) c4) = w5 := ⟨_, rfl⟩
        rw [hw5] at HD5 HK5
        refine Lib.hid ?_
        go_wp2_with fail
        try clear hw5
        clear f5 k5
        have HS5 : Hid (∀ V, Below w5.heap.size w5 V → V.cell? ⟨db, 3, none⟩ = some (.int .i64 c1.mark)) := Lib.hid (fun V hV => (HD5.out.below hV).blk.cell 3)
        have HTL := Lib.hid (tell_any D db c4 _ A4 _ _ w5.drew HNL.out (by omega) (HD5.out.keep (w' := w5.drew) (Nat.le_refl _) (fun _ _ _ => rfl)))
        have HSD : Hid (Below w5.heap.size w5 w5.drew) := Lib.hid (Go.Proofs.YtobkgkiomapabaaDoor.below_drew (Below.refl _ _))
        refine wp_planN (fun V => Below w5.heap.size w5 V) [(0, 1), (1, 1), (2, 1), (3, 1), (4, 1), (5, 1), (6, 2), (7, 2), (8, 1), (9, 1), (10, 3)] (by kernel_rfl) (by kernel_rfl) HSD.out ?_
        simp only [planNL, List.getElem?_cons_zero, List.getElem?_cons_succ]
        repeat (refine planN_on _ (by rfl) (fun W hW => by (have x0 := HS5.out W hW; go_simp; try with_reducible rfl)) ?_; simp only [Act.put, List.setIfInBounds_toArray, List.set_cons_zero, List.set_cons_succ])
        refine planN_turn ?_
        go_wp2_with fail
        refine HTL.out.mono ?_
        rintro e w6 ⟨v, rfl, htl, hb6⟩
        have HT := Lib.hid htl
        have HB6 : Hid (Below w5.heap.size w5 w6) := Lib.hid (HSD.out.trans hb6)
        clear htl hb6 HTL
        go_wp2_with fail
        refine ⟨HB6.out, ?_⟩
        refine planN_turn ?_
        go_wp2_with fail
        refine ⟨HB6.out, ?_⟩
        repeat (refine planN_on _ (by rfl) (fun W hW => by (have x0 := HS5.out W hW; go_simp; try with_reducible rfl)) ?_; simp only [Act.put, List.setIfInBounds_toArray, List.set_cons_zero, List.set_cons_succ])
        have f6 : w6.frozen? ⟨db, 3, none⟩ = false := (HD5.out.below HB6.out).blk.frozen 3
        have k6 : w6.cell? ⟨db, 3, none⟩ = some (.int .i64 c1.mark) := HS5.out w6 HB6.out
        refine planN_last ?_
        go_wp2_with fail
        refine planN_done ?_
        have HR := Lib.hid (tells_rose HT.out HD5.out.ok)
        have H7 := Lib.hid ((HD5.out.below HB6.out).set 3 (.int .i64 (max c1.mark v)) (c' := { Heard' c1 s at_ with mark := max (Heard' c1 s at_).mark v }) (by simp [Heard']) rfl (tells_ok HT.out HD5.out.rows HD5.out.ok))
        have HK7 : Hid (Kept (fun i => i = db) w (w6.setCell ⟨db, 3, none⟩ (.int .i64 (max c1.mark v)))) := Lib.hid ((HK5.out.below HB6.out HK5.out.size).setCell (p := ⟨db, 3, none⟩) (Or.inl rfl) _)
        obtain ⟨w7, hw7⟩ : ∃ w7, w6.setCell ⟨db, 3, none⟩ (.int .i64 (max c1.mark v)) = w7 := ⟨_, rfl⟩
        rw [hw7] at H7 HK7 ⊢
        clear hw7 f6 k6
        go_wp2_with fail
        go_ret
        exact ⟨_, rfl, _, ⟨true, rfl, c1, HT1.out, Or.inr ⟨rfl, HFIT.out, HR.out⟩⟩, ⟨_, _, _, HLEN.out, H7.out⟩, HK7.out⟩
    case refine_2 =>
      obtain ⟨x1, hx1⟩ : ∃ x1, wd.alloc (.cells #[.string s, .int .i64 at_, .int .i64 c1.now] 54) = x1 := ⟨_, rfl⟩
      have Bx1 : Hid (Below w1.heap.size w1 x1) := Lib.hid (by rw [← hx1]; exact HBD.out.alloc HBD.out.size _)
      have Zx1 : Hid (x1.heap.size = wd.heap.size + 1) := Lib.hid (by rw [← hx1]; simp)
      have Rx1 : Hid (RowIn x1 (wd.heap.size + 1) 3 (some ⟨wd.heap.size, 0, none⟩) 1 (scC (s, at_, c1.now))) := Lib.hid (by rw [← hx1]; exact one_sc _ (s, at_, c1.now) _)
      go_wp2_with fail
      try rw [hx1]
      clear hx1
      refine ⟨Bx1.out, ?_⟩
      refine planT_turn ?_
      obtain ⟨x2, hx2⟩ : ∃ x2, x1.alloc (.cells #[] 54) = x2 := ⟨_, rfl⟩
      have Bx2 : Hid (Below w1.heap.size w1 x2) := Lib.hid (by rw [← hx2]; exact Bx1.out.alloc Bx1.out.size _)
      have Zx2 : Hid (x2.heap.size = x1.heap.size + 1) := Lib.hid (by rw [← hx2]; simp)
      have Ox2 : Hid (x2.ownsRow x1.heap.size 54 3 (.slice (some ⟨x1.heap.size, 0, none⟩) 0 0) 0 []) := Lib.hid (by rw [← hx2]; exact own_empty _ _ _)
      have Rx2 : Hid (RowIn x2 (wd.heap.size + 1) 3 (some ⟨wd.heap.size, 0, none⟩) 1 (scC (s, at_, c1.now))) := Lib.hid (by rw [← hx2]; exact Rx1.out.alloc (by have := Zx1.out; omega) _)
      go_wp2_with fail
      try rw [hx2]
      clear hx2
      refine ⟨Bx2.out, ?_⟩
      refine planT_turn ?_
      have HRx3 := Lib.hid ((HROW.out _ Bx2.out).front hkn)
      rw [flat_take scC 3 scC_len] at HRx3
      have hzx3 : w1.heap.size ≤ x2.heap.size := Bx2.out.size
      have HOMx3 := Lib.hid (own_mono Ox2.out (base' := w1.heap.size) (by have := HBD.out.size; have := Zx1.out; have := Zx2.out; omega))
      go_wp2_with (first | (at_builtin; refine wpList_append_row _ rfl _ _ 47 rfl w1.heap.size 54 i0 _ 3 32 Tryd.underlying47 hi0 hz0 hz1 hz2 rfl (by omega) (.slice (some ⟨x1.heap.size, 0, none⟩) 0 0) 0 _ rfl HOMx3.out w1.heap.size A k cc _ rfl HRx3.out HNIL.out (scC_one (l.take k)) (by unfold maxLen; omega) (by omega) hzx3 ?_; intro vP wP hoP hgP hvP))
      obtain ⟨AP, cP, hv⟩ := own_shape hoP
      subst hv
      rw [Nat.zero_add] at hoP ⊢
      rw [List.nil_append] at hoP
      have BwP : Hid (Below w1.heap.size w1 wP) := Lib.hid ((((Kept.refl (fun _ => False) w1).below Bx2.out (Nat.le_refl _)).grown hgP (fun j hj => Or.inr (HOMx3.out.lt _ hj).1)).toBelow (fun i hi => hi.elim) (Nat.le_refl _))
      have RwP : Hid (RowIn wP (wd.heap.size + 1) 3 (some ⟨wd.heap.size, 0, none⟩) 1 (scC (s, at_, c1.now))) := Lib.hid (row_grown Rx2.out (by have := Zx1.out; have := Zx2.out; omega) (by simp [Value.ownBlock]; have := Zx1.out; have := Zx2.out; omega) hgP)
      have OwP := Lib.hid hoP
      have ZwP : Hid (x2.heap.size ≤ wP.heap.size) := Lib.hid hgP.size
      clear hoP hgP hvP
      refine ⟨BwP.out, ?_⟩
      refine planT_turn ?_
      have hzq : w1.heap.size ≤ wP.heap.size := BwP.out.size
      have HONE : Hid (∀ u ∈ scC (s, at_, c1.now), u.oneCell' = true) := Lib.hid (fun u hu => scC_one [(s, at_, c1.now)] u (by simpa using hu))
      go_wp2_with (first | (at_builtin; refine wpList_append_row _ rfl _ _ 47 rfl w1.heap.size 54 i0 _ 3 32 Tryd.underlying47 hi0 hz0 hz1 hz2 rfl (by omega) (.slice AP k cP) k _ rfl OwP.out (wd.heap.size + 1) (some ⟨wd.heap.size, 0, none⟩) 1 1 _ rfl RwP.out (fun h => by cases h) HONE.out (by unfold maxLen; omega) (by omega) hzq ?_; intro vQ wQ hoQ hgQ hvQ))
      obtain ⟨AQ, cQ, hv⟩ := own_shape hoQ
      subst hv
      have BwQ : Hid (Below w1.heap.size w1 wQ) := Lib.hid ((((Kept.refl (fun _ => False) w1).below BwP.out (Nat.le_refl _)).grown hgQ (fun j hj => Or.inr (OwP.out.lt _ hj).1)).toBelow (fun i hi => hi.elim) (Nat.le_refl _))
      have OwQ := Lib.hid hoQ
      clear hoQ hgQ hvQ
      refine ⟨BwQ.out, ?_⟩
      refine planT_turn ?_
      have HRq := Lib.hid (HCUT.out _ BwQ.out)
      have hzr : w1.heap.size ≤ wQ.heap.size := BwQ.out.size
      go_wp2_with (first | (at_builtin; refine wpList_append_row _ rfl _ _ 47 rfl w1.heap.size 54 i0 _ 3 32 Tryd.underlying47 hi0 hz0 hz1 hz2 rfl (by omega) (.slice AQ (k + 1) cQ) (k + 1) _ rfl OwQ.out w1.heap.size AX (n - k) (cc - k) _ rfl HRq.out HNI2.out (scC_one (l.drop k)) (by unfold maxLen; omega) (by omega) hzr ?_; intro vR wR hoR hgR hvR))
      obtain ⟨A4, c4, hv⟩ := own_shape hoR
      subst hv
      have HB4 : Hid (Below w1.heap.size w1 wR) := Lib.hid ((((Kept.refl (fun _ => False) w1).below BwQ.out (Nat.le_refl _)).grown hgR (fun j hj => Or.inr (OwQ.out.lt _ hj).1)).toBelow (fun i hi => hi.elim) (Nat.le_refl _))
      have HO4 : Hid (wR.ownsRow w1.heap.size 54 3 (.slice A4 (n + 1) c4) (n + 1) ((l.take k ++ (s, at_, c1.now) :: l.drop k).flatMap scC)) := Lib.hid (by rw [← HLF.out, ← HLS.out]; exact hoR)
      have HEQN := HLS.out
      rw [HEQN]
      clear hoR hgR hvR HEQN
      refine ⟨HB4.out, ?_⟩
      repeat (refine planT_on _ (by rfl) (fun W hW => by (go_simp; try with_reducible rfl)) ?_; simp only [Act.put, List.setIfInBounds_toArray, List.set_cons_zero, List.set_cons_succ])
      refine planT_done ?_
      obtain ⟨w4, rfl⟩ : ∃ w4, w4 = wR := ⟨_, rfl⟩
      have HD5 := Lib.hid (doc_store (H.out.below HB4.out) HO4.out HLT.out HNL.out HRW.out rfl rfl rfl rfl)
      have HK5 : Hid (Kept (fun i => i = db) w (w4.setCell ⟨db, 4, none⟩ (.slice A4 (n + 1) c4))) := Lib.hid ((HK.out.below HB4.out HK.out.size).setCell (p := ⟨db, 4, none⟩) (Or.inl rfl) _)
      have f5 : w4.frozen? ⟨db, 4, none⟩ = false := (H.out.below HB4.out).blk.frozen 4
      have k5 : w4.cell? ⟨db, 4, none⟩ = some (.slice A n cc) := HSC2.out w4 HB4.out
      obtain ⟨w5, hw5⟩ : ∃ w5, w4.setCell ⟨db, 4, none⟩ (.slice A4 (n + 1) c4) = w5 := ⟨_, rfl⟩
      rw [hw5] at HD5 HK5
      refine Lib.hid ?_
      go_wp2_with fail
      try clear hw5
      clear f5 k5
      have HS5 : Hid (∀ V, Below w5.heap.size w5 V → V.cell? ⟨db, 3, none⟩ = some (.int .i64 c1.mark)) := Lib.hid (fun V hV => (HD5.out.below hV).blk.cell 3)
      have HTL := Lib.hid (tell_any D db c4 _ A4 _ _ w5.drew HNL.out (by omega) (HD5.out.keep (w' := w5.drew) (Nat.le_refl _) (fun _ _ _ => rfl)))
      have HSD : Hid (Below w5.heap.size w5 w5.drew) := Lib.hid (Go.Proofs.YtobkgkiomapabaaDoor.below_drew (Below.refl _ _))
      refine wp_planN (fun V => Below w5.heap.size w5 V) [(0, 1), (1, 1), (2, 1), (3, 1), (4, 1), (5, 1), (6, 2), (7, 2), (8, 1), (9, 1), (10, 3)] (by kernel_rfl) (by kernel_rfl) HSD.out ?_
      simp only [planNL, List.getElem?_cons_zero, List.getElem?_cons_succ]
      repeat (refine planN_on _ (by rfl) (fun W hW => by (have x0 := HS5.out W hW; go_simp; try with_reducible rfl)) ?_; simp only [Act.put, List.setIfInBounds_toArray, List.set_cons_zero, List.set_cons_succ])
      refine planN_turn ?_
      go_wp2_with fail
      refine HTL.out.mono ?_
      rintro e w6 ⟨v, rfl, htl, hb6⟩
      have HT := Lib.hid htl
      have HB6 : Hid (Below w5.heap.size w5 w6) := Lib.hid (HSD.out.trans hb6)
      clear htl hb6 HTL
      go_wp2_with fail
      refine ⟨HB6.out, ?_⟩
      refine planN_turn ?_
      go_wp2_with fail
      refine ⟨HB6.out, ?_⟩
      repeat (refine planN_on _ (by rfl) (fun W hW => by (have x0 := HS5.out W hW; go_simp; try with_reducible rfl)) ?_; simp only [Act.put, List.setIfInBounds_toArray, List.set_cons_zero, List.set_cons_succ])
      have f6 : w6.frozen? ⟨db, 3, none⟩ = false := (HD5.out.below HB6.out).blk.frozen 3
      have k6 : w6.cell? ⟨db, 3, none⟩ = some (.int .i64 c1.mark) := HS5.out w6 HB6.out
      refine planN_last ?_
      go_wp2_with fail
      refine planN_done ?_
      have HR := Lib.hid (tells_rose HT.out HD5.out.ok)
      have H7 := Lib.hid ((HD5.out.below HB6.out).set 3 (.int .i64 (max c1.mark v)) (c' := { Heard' c1 s at_ with mark := max (Heard' c1 s at_).mark v }) (by simp [Heard']) rfl (tells_ok HT.out HD5.out.rows HD5.out.ok))
      have HK7 : Hid (Kept (fun i => i = db) w (w6.setCell ⟨db, 3, none⟩ (.int .i64 (max c1.mark v)))) := Lib.hid ((HK5.out.below HB6.out HK5.out.size).setCell (p := ⟨db, 3, none⟩) (Or.inl rfl) _)
      obtain ⟨w7, hw7⟩ : ∃ w7, w6.setCell ⟨db, 3, none⟩ (.int .i64 (max c1.mark v)) = w7 := ⟨_, rfl⟩
      rw [hw7] at H7 HK7 ⊢
      clear hw7 f6 k6
      go_wp2_with fail
      go_ret
      exact ⟨_, rfl, _, ⟨true, rfl, c1, HT1.out, Or.inr ⟨rfl, HFIT.out, HR.out⟩⟩, ⟨_, _, _, HLEN.out, H7.out⟩, HK7.out⟩

end Go.Proofs.YtobkgkiomapabaaDoor
