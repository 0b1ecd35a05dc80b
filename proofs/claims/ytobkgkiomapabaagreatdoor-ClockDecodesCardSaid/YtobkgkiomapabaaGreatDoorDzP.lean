/- Texts cut at signs, and the document's way to read a clock: plain. -/
import Derived.Test.YtobkgkiomapabaaGreatDoorDcV
namespace Go.Proofs.YtobkgkiomapabaaGreatDoor
open Go.Shelf Go.RowKit Go.Maps
set_option linter.unusedVariables false

/-! ### cutting -/
/-- The parts of a row of bytes between signs. -/
def cutL (c : UInt8) : List UInt8 → List (List UInt8)
  | [] => [[]]
  | b :: l => if b = c then [] :: cutL c l else match cutL c l with
    | [] => [[b]]
    | h :: t => (b :: h) :: t
theorem cutL_ne (c : UInt8) : ∀ l, cutL c l ≠ []
  | [] => by simp [cutL]
  | b :: l => by
    unfold cutL
    split
    · simp
    · split <;> simp
theorem cutL_sign (c : UInt8) : ∀ l, cutL c (l ++ [c]) = cutL c l ++ [[]]
  | [] => by simp [cutL]
  | b :: l => by
    have ih := cutL_sign c l
    by_cases h : b = c
    · simp only [List.cons_append, cutL, if_pos h, ih]
    · simp only [List.cons_append, cutL, if_neg h, ih]
      cases hc : cutL c l with
      | nil => exact absurd hc (cutL_ne c l)
      | cons x t => rfl
theorem cutL_byte (c b : UInt8) (h : b ≠ c) : ∀ l, ∃ x t, cutL c l = t ++ [x] ∧ cutL c (l ++ [b]) = t ++ [x ++ [b]]
  | [] => ⟨[], [], rfl, by simp [cutL, h]⟩
  | d :: l => by
    obtain ⟨x, t, e1, e2⟩ := cutL_byte c b h l
    by_cases hd : d = c
    · exact ⟨x, [] :: t, by simp [cutL, hd, e1], by simp [cutL, hd, e2]⟩
    · cases t with
      | nil => exact ⟨d :: x, [], by simp [cutL, hd, e1], by simp [cutL, hd, e2]⟩
      | cons y t => exact ⟨x, (d :: y) :: t, by simp [cutL, hd, e1], by simp [cutL, hd, e2]⟩
theorem cutL_line (c : UInt8) (r : List UInt8) : ∀ x : List UInt8, (∀ b ∈ x, b ≠ c) → cutL c (x ++ c :: r) = x :: cutL c r
  | [], _ => by simp [cutL]
  | b :: x, h => by
    have ih := cutL_line c r x (fun y hy => h y (by simp [hy]))
    have hb : b ≠ c := h b (by simp)
    simp only [List.cons_append, cutL, if_neg hb, ih]
theorem cutL_one (c : UInt8) : ∀ x : List UInt8, (∀ b ∈ x, b ≠ c) → cutL c x = [x]
  | [], _ => by simp [cutL]
  | b :: x, h => by
    have ih := cutL_one c x (fun y hy => h y (by simp [hy]))
    have hb : b ≠ c := h b (by simp)
    simp only [cutL, if_neg hb, ih]
/-- Parts with the sign between. -/
def joinL (c : UInt8) : List (List UInt8) → List UInt8
  | [] => []
  | [x] => x
  | x :: y :: r => x ++ c :: joinL c (y :: r)
theorem cutL_join (c : UInt8) : ∀ l, joinL c (cutL c l) = l
  | [] => rfl
  | b :: l => by
    have ih := cutL_join c l
    by_cases h : b = c
    · subst h
      simp only [cutL, if_pos]
      cases hc : cutL b l with
      | nil => exact absurd hc (cutL_ne b l)
      | cons x t =>
        rw [hc] at ih
        simp only [joinL, List.nil_append, ih]
    · simp only [cutL, if_neg h]
      cases hc : cutL c l with
      | nil => exact absurd hc (cutL_ne c l)
      | cons x t =>
        rw [hc] at ih
        cases t with
        | nil => simp only [joinL] at ih ⊢; rw [ih]
        | cons y t => simp only [joinL, List.cons_append] at ih ⊢; rw [ih]
theorem joinL_cons (c : UInt8) (x : List UInt8) {r : List (List UInt8)} (h : r ≠ []) : joinL c (x :: r) = x ++ c :: joinL c r := by
  cases r with
  | nil => exact absurd rfl h
  | cons y r => rfl
def cutB (c : UInt8) (s : ByteArray) : List ByteArray := (cutL c s.data.toList).map (fun l => ⟨l.toArray⟩)

/-! ### lines of numbers -/
/-- What a clock's number is, of a word: from 0 to the most; -2: it is none. -/
def NumIs (w : ByteArray) (i : Int) : Prop := (i = -2 ∧ ∀ n : Nat, n ≤ 1099511627776 → w.data.toList ≠ Lib.decDigits n) ∨ ∃ n : Nat, i = n ∧ n ≤ 1099511627776 ∧ w.data.toList = Lib.decDigits n
theorem NumIs.back {w : ByteArray} {i : Int} (h : NumIs w i) (hi : 0 ≤ i) : w.data.toList = Lib.itoa i ∧ i ≤ 1099511627776 := by
  rcases h with ⟨rfl, _⟩ | ⟨n, rfl, h1, h2⟩
  · omega
  · exact ⟨by rw [h2, Lib.itoa_nonneg], by omega⟩
theorem dig_one {m n : Nat} (hm : m ≤ 1099511627776) (hn : n ≤ 1099511627776) (h : Lib.decDigits m = Lib.decDigits n) : m = n := by
  have h1 := dec_dig m
  rw [h, dec_dig n] at h1
  simpa using h1.symm
theorem NumIs.of {w : ByteArray} {i v : Int} (h : NumIs w i) (hv : 0 ≤ v) (hv2 : v ≤ 1099511627776) (hw : w.data.toList = Lib.itoa v) : i = v := by
  obtain ⟨n, rfl⟩ : ∃ n : Nat, v = n := ⟨v.toNat, by omega⟩
  rw [Lib.itoa_nonneg] at hw
  rcases h with ⟨rfl, h⟩ | ⟨m, rfl, h1, h2⟩
  · exact absurd hw (h n (by omega))
  · rw [h2] at hw
    rw [dig_one h1 (by omega) hw]
theorem itoa_cut {n : Int} : ∀ {c : UInt8}, (c = 32 ∨ c = 10) → ∀ b ∈ Lib.itoa n, b ≠ c := fun hc b hb => by
  obtain ⟨j, hj⟩ := List.mem_iff_getElem?.1 hb
  exact itoa_byte (n := n) hc j b (by rw [itoaB_data]; exact hj)
theorem name_cut {s : ByteArray} (h : nameB s = true) {c : UInt8} (hc : c = 32 ∨ c = 10) : ∀ b ∈ s.data.toList, b ≠ c := fun b hb => by
  obtain ⟨j, hj⟩ := List.mem_iff_getElem?.1 hb
  exact name_noC h hc j b hj
theorem clockW_cut {c : UInt8} (hc : c = 32 ∨ c = 10) : ∀ b ∈ clockW.data.toList, b ≠ c := fun b hb => by
  obtain ⟨j, hj⟩ := List.mem_iff_getElem?.1 hb
  exact clockW_noC hc j b hj
/-- A source's line, without its end. -/
def rowL (x : Sc) : List UInt8 := x.1.data.toList ++ 32 :: (Lib.itoa x.2.1 ++ 32 :: Lib.itoa x.2.2)
def headL (c : Ck) : List UInt8 := clockW.data.toList ++ 32 :: (Lib.itoa c.slack ++ 32 :: (Lib.itoa c.idle ++ 32 :: (Lib.itoa c.now ++ 32 :: Lib.itoa c.mark)))
theorem mem_sign {c : UInt8} (hc : c = 10) {b : UInt8} {x y : List UInt8} (hx : ∀ b ∈ x, b ≠ c) (hy : ∀ b ∈ y, b ≠ c) (h : b ∈ x ++ 32 :: y) : b ≠ c := by
  rw [List.mem_append, List.mem_cons] at h
  rcases h with h | rfl | h
  · exact hx b h
  · subst hc; decide
  · exact hy b h
theorem rowL_no {x : Sc} (h : nameB x.1 = true) : ∀ b ∈ rowL x, b ≠ 10 := fun b hb =>
  mem_sign rfl (name_cut h (Or.inr rfl)) (fun d hd => mem_sign rfl (itoa_cut (Or.inr rfl)) (itoa_cut (Or.inr rfl)) hd) hb
theorem headL_no (c : Ck) : ∀ b ∈ headL c, b ≠ 10 := fun b hb =>
  mem_sign rfl (clockW_cut (Or.inr rfl)) (fun d hd => mem_sign rfl (itoa_cut (Or.inr rfl)) (fun d hd => mem_sign rfl (itoa_cut (Or.inr rfl)) (fun d hd => mem_sign rfl (itoa_cut (Or.inr rfl)) (itoa_cut (Or.inr rfl)) hd) hd) hd) hb
theorem rowL_cut {x : Sc} (h : nameB x.1 = true) : cutL 32 (rowL x) = [x.1.data.toList, Lib.itoa x.2.1, Lib.itoa x.2.2] := by
  unfold rowL
  rw [cutL_line 32 _ _ (name_cut h (Or.inl rfl)), cutL_line 32 _ _ (itoa_cut (Or.inl rfl)), cutL_one 32 _ (itoa_cut (Or.inl rfl))]
theorem headL_cut (c : Ck) : cutL 32 (headL c) = [clockW.data.toList, Lib.itoa c.slack, Lib.itoa c.idle, Lib.itoa c.now, Lib.itoa c.mark] := by
  unfold headL
  rw [cutL_line 32 _ _ (clockW_cut (Or.inl rfl)), cutL_line 32 _ _ (itoa_cut (Or.inl rfl)), cutL_line 32 _ _ (itoa_cut (Or.inl rfl)), cutL_line 32 _ _ (itoa_cut (Or.inl rfl)), cutL_one 32 _ (itoa_cut (Or.inl rfl))]
theorem encB_list (c : Ck) (l : List Sc) : (encB c l).data.toList = headL c ++ 10 :: l.flatMap (fun x => rowL x ++ [10]) := by
  unfold encB headC headL
  have h : ∀ x : Sc, lineS x = rowL x ++ [10] := fun x => by
    unfold lineS lineC rowL
    simp
  have h2 : l.flatMap lineS = l.flatMap (fun x => rowL x ++ [10]) := by
    congr 1
    funext x
    exact h x
  rw [← h2]
  unfold lineC
  simp
theorem rows_cut : ∀ l : List Sc, (∀ x ∈ l, nameB x.1 = true) → cutL 10 (l.flatMap (fun x => rowL x ++ [10])) = l.map rowL ++ [[]]
  | [], _ => by simp [cutL]
  | x :: l, h => by
    have ih := rows_cut l (fun y hy => h y (by simp [hy]))
    rw [List.flatMap_cons, List.append_assoc, List.singleton_append, cutL_line 10 _ _ (rowL_no (h x (by simp))), ih]
    rfl
theorem code_cut {b : ByteArray} {c : Ck} {l : List Sc} (h : CodeOf b c l) : cutL 10 b.data.toList = headL c :: (l.map rowL ++ [[]]) := by
  obtain ⟨hv, rfl⟩ := h
  rw [encB_list, cutL_line 10 _ _ (headL_no c), rows_cut l hv.name]
theorem code_of_cut {b : ByteArray} {c : Ck} {l : List Sc} (hv : Valid c l) (h : cutL 10 b.data.toList = headL c :: (l.map rowL ++ [[]])) : CodeOf b c l := by
  refine ⟨hv, ba_eq ?_⟩
  rw [← cutL_join 10 b.data.toList, h, ← cutL_join 10 (encB c l).data.toList, encB_list, cutL_line 10 _ _ (headL_no c), rows_cut l hv.name]

/-! ### the document's state -/
/-- The sources that a row of them tells of. -/
structure RowsOk (now : Int) (l : List Sc) : Prop where
  asc : l.Pairwise (fun x y => ltN x.1 y.1)
  ok : ∀ x ∈ l, nameB x.1 = true ∧ 0 ≤ x.2.1 ∧ x.2.1 ≤ 1099511627776 ∧ 0 ≤ x.2.2 ∧ x.2.2 ≤ 1099511627776 ∧ x.2.2 ≤ now
theorem RowsOk.nil (now : Int) : RowsOk now [] := ⟨List.Pairwise.nil, fun x hx => by simp at hx⟩
theorem RowsOk.rows {now : Int} {l : List Sc} (h : RowsOk now l) : Rows' (srcFold l) l := by
  refine ⟨h.asc, fun s x => ?_, fun x hx => ?_⟩
  · rw [srcFold_mem l.length l rfl h.asc]
    constructor
    · rintro ⟨nm, h1, h2⟩
      rwa [← ba_eq h1]
    · intro h2
      exact ⟨s, rfl, h2⟩
  · obtain ⟨h1, h2, h3, h4, h5, _⟩ := h.ok x hx
    exact ⟨h2, h3, h4, h5, nameB_24 h1⟩
theorem RowsOk.snoc {now : Int} {l : List Sc} {x : Sc} (h : RowsOk now l) (hn : nameB x.1 = true) (h1 : 0 ≤ x.2.1 ∧ x.2.1 ≤ 1099511627776 ∧ 0 ≤ x.2.2 ∧ x.2.2 ≤ 1099511627776 ∧ x.2.2 ≤ now) (hl : l = [] ∨ ∃ y, l.getLast? = some y ∧ ltN y.1 x.1) : RowsOk now (l ++ [x]) := by
  refine ⟨List.pairwise_append.2 ⟨h.asc, List.pairwise_singleton _ _, fun z hz z2 hz2 => ?_⟩, fun z hz => ?_⟩
  · rw [List.mem_singleton] at hz2
    subst hz2
    rcases hl with rfl | ⟨y, hy, hlt⟩
    · simp at hz
    · obtain ⟨l', rfl⟩ : ∃ l', l = l' ++ [y] := ⟨l.dropLast, by
        have hne : l ≠ [] := by rintro rfl; simp at hy
        rw [List.getLast?_eq_some_getLast hne] at hy
        injection hy with hy
        rw [← hy, List.dropLast_concat_getLast]⟩
      rw [List.mem_append, List.mem_singleton] at hz
      rcases hz with hz | rfl
      · exact ltN_trans ((List.pairwise_append.1 h.asc).2.2 z hz y (by simp)) hlt
      · exact hlt
  · rw [List.mem_append, List.mem_singleton] at hz
    rcases hz with hz | rfl
    · exact h.ok z hz
    · exact ⟨hn, h1⟩
/-- How far the document is: the head was read, and n rows. -/
structure DocTo (b : ByteArray) (c : Ck) (l : List Sc) : Prop where
  nums : c.Ok
  rows : RowsOk c.now l
  cut : ∃ r, cutL 10 b.data.toList = headL c :: (l.map rowL ++ r)
theorem DocTo.src {b : ByteArray} {c : Ck} {l : List Sc} (h : DocTo b c l) : DocTo b { c with src := srcFold l } l := by
  obtain ⟨⟨a1, a2, a3, a4, a5, a6, a7, a8⟩, h2, h3⟩ := h
  exact ⟨⟨a1, a2, a3, a4, a5, a6, a7, a8⟩, h2, h3⟩
/-- A clock whose text this is has the same numbers and begins with the same rows. -/
theorem head_one {c c0 : Ck} (h : headL c = headL c0) (o : c.Ok) (o0 : c0.Ok) : c.slack = c0.slack ∧ c.idle = c0.idle ∧ c.now = c0.now ∧ c.mark = c0.mark := by
  have e := headL_cut c
  rw [h, headL_cut c0] at e
  simp only [List.cons.injEq, true_and, and_true] at e
  obtain ⟨e1, e2, e3, e4⟩ := e
  have one : ∀ {x y : Int}, -1 ≤ x → x ≤ 1099511627776 → -1 ≤ y → y ≤ 1099511627776 → Lib.itoa x = Lib.itoa y → y = x := fun {x y} hx hx2 hy hy2 e => by
    have h1 := atoi_itoa hx hx2
    rw [e, atoi_itoa hy hy2] at h1
    injection h1
  obtain ⟨s0, s1, i0, i1, n0, n1, m0, m1⟩ := o
  obtain ⟨t0, t1, j0, j1, k0, k1, l0, l1⟩ := o0
  exact ⟨one (by omega) (by omega) (by omega) (by omega) e1, one (by omega) (by omega) (by omega) (by omega) e2, one (by omega) (by omega) (by omega) (by omega) e3, one (by omega) (by omega) (by omega) (by omega) e4⟩
theorem row_one {x y : Sc} (h : rowL x = rowL y) (hx : nameB x.1 = true) (hy : nameB y.1 = true) (b1 : 0 ≤ x.2.1 ∧ x.2.1 ≤ 1099511627776 ∧ 0 ≤ x.2.2 ∧ x.2.2 ≤ 1099511627776) (b2 : 0 ≤ y.2.1 ∧ y.2.1 ≤ 1099511627776 ∧ 0 ≤ y.2.2 ∧ y.2.2 ≤ 1099511627776) : x = y := by
  have e := rowL_cut hx
  rw [h, rowL_cut hy] at e
  simp only [List.cons.injEq, and_true] at e
  obtain ⟨e1, e2, e3⟩ := e
  have one : ∀ {x y : Int}, -1 ≤ x → x ≤ 1099511627776 → -1 ≤ y → y ≤ 1099511627776 → Lib.itoa x = Lib.itoa y → y = x := fun {x y} hx hx2 hy hy2 e => by
    have h1 := atoi_itoa hx hx2
    rw [e, atoi_itoa hy hy2] at h1
    injection h1
  obtain ⟨x0, x1, x2⟩ := x
  obtain ⟨y0, y1, y2⟩ := y
  dsimp only at *
  obtain rfl : x0 = y0 := ba_eq e1.symm
  obtain rfl : x1 = y1 := one (by omega) (by omega) (by omega) (by omega) e2
  obtain rfl : x2 = y2 := one (by omega) (by omega) (by omega) (by omega) e3
  rfl
theorem DocTo.agree {b : ByteArray} {c : Ck} {l : List Sc} (h : DocTo b c l) {c0 : Ck} {l0 : List Sc} (h0 : CodeOf b c0 l0) : c.slack = c0.slack ∧ c.idle = c0.idle ∧ c.now = c0.now ∧ c.mark = c0.mark ∧ l.length ≤ l0.length ∧ ∀ (k : Nat) x, l[k]? = some x → l0[k]? = some x := by
  obtain ⟨r, hr⟩ := h.cut
  rw [code_cut h0] at hr
  injection hr with e1 e2
  obtain ⟨a1, a2, a3, a4⟩ := head_one e1.symm h.nums h0.1.ok
  have hne : ∀ x : Sc, rowL x ≠ [] := fun x e => by
    unfold rowL at e
    simp at e
  have hk : ∀ (k : Nat) x, l[k]? = some x → l0[k]? = some x := fun k x hx => by
    have hkl := (List.getElem?_eq_some_iff.1 hx).1
    have h1 : (l0.map rowL ++ [[]])[k]? = some (rowL x) := by
      rw [e2, List.getElem?_append_left (by simpa using hkl), List.getElem?_map, hx]
      rfl
    by_cases hk0 : k < l0.length
    · rw [List.getElem?_append_left (by simpa using hk0), List.getElem?_map] at h1
      obtain ⟨y, hy, hy2⟩ := Option.map_eq_some_iff.1 h1
      have m1 := List.mem_of_getElem? hx
      have m2 := List.mem_of_getElem? hy
      obtain ⟨n1, n2⟩ := h.rows.ok x m1
      obtain ⟨b1, b2, b3, b4, b5⟩ := h0.1.rows.ok y m2
      rw [hy, row_one hy2 (h0.1.name y m2) n1 ⟨b1, b2, b3, b4⟩ ⟨n2.1, n2.2.1, n2.2.2.1, n2.2.2.2.1⟩]
    · rw [List.getElem?_append_right (by simpa using hk0)] at h1
      have h2 := List.mem_of_getElem? h1
      rw [List.mem_singleton] at h2
      exact absurd h2 (hne x)
  refine ⟨a1, a2, a3, a4, ?_, hk⟩
  rcases Nat.lt_or_ge l0.length l.length with h1 | h1
  · have := hk l0.length (l[l0.length]'h1) (List.getElem?_eq_getElem h1)
    rw [List.getElem?_eq_none (Nat.le_refl _)] at this
    cases this
  · exact h1
theorem code_lines {b : ByteArray} {c : Ck} {l : List Sc} (h : CodeOf b c l) : (cutB 10 b).length = l.length + 2 ∧ (cutB 10 b)[0]? = some ⟨(headL c).toArray⟩ ∧ (∀ (k : Nat) x, l[k]? = some x → (cutB 10 b)[k + 1]? = some ⟨(rowL x).toArray⟩) ∧ (cutB 10 b)[l.length + 1]? = some ⟨#[]⟩ := by
  unfold cutB
  rw [code_cut h]
  refine ⟨by simp, rfl, fun k x hx => ?_, ?_⟩
  · have hk := (List.getElem?_eq_some_iff.1 hx).1
    rw [List.map_cons, List.getElem?_cons_succ, List.getElem?_map, List.getElem?_append_left (by simpa using hk), List.getElem?_map, hx]
    rfl
  · rw [List.map_cons, List.getElem?_cons_succ, List.getElem?_map, List.getElem?_append_right (by simp)]
    simp
theorem head_words (c : Ck) : cutB 32 ⟨(headL c).toArray⟩ = [clockW, itoaB c.slack, itoaB c.idle, itoaB c.now, itoaB c.mark] := by
  unfold cutB
  show (cutL 32 (headL c)).map _ = _
  rw [headL_cut]
  rfl
theorem row_words {x : Sc} (h : nameB x.1 = true) : cutB 32 ⟨(rowL x).toArray⟩ = [x.1, itoaB x.2.1, itoaB x.2.2] := by
  unfold cutB
  show (cutL 32 (rowL x)).map _ = _
  rw [rowL_cut h]
  rfl
/-- The head is read. -/
theorem DocTo.head {b h : ByteArray} {r : List ByteArray} {w1 w2 w3 w4 : ByteArray} {a0 a1 a2 a3 : Int} (hb : cutB 10 b = h :: r) (hw : cutB 32 h = [clockW, w1, w2, w3, w4]) (n1 : NumIs w1 a0) (n2 : NumIs w2 a1) (n3 : NumIs w3 a2) (h1 : 0 ≤ a0) (h2 : 0 ≤ a1) (h3 : 0 ≤ a2) (h4 : (w4 = itoaB (-1) ∧ a3 = -1) ∨ (NumIs w4 a3 ∧ 0 ≤ a3)) : DocTo b ⟨a0, a1, a2, a3, fun _ => none⟩ [] := by
  obtain ⟨q1, q2⟩ := n1.back h1
  obtain ⟨q3, q4⟩ := n2.back h2
  obtain ⟨q5, q6⟩ := n3.back h3
  have q7 : w4.data.toList = Lib.itoa a3 ∧ -1 ≤ a3 ∧ a3 ≤ 1099511627776 := by
    rcases h4 with ⟨rfl, rfl⟩ | ⟨n4, h4⟩
    · exact ⟨itoaB_data _, by omega, by omega⟩
    · obtain ⟨q8, q9⟩ := n4.back h4
      exact ⟨q8, by omega, q9⟩
  refine ⟨⟨h1, q2, h2, q4, h3, q6, q7.2.1, q7.2.2⟩, RowsOk.nil _, ?_⟩
  have hl : h.data.toList = headL ⟨a0, a1, a2, a3, fun _ => none⟩ := by
    rw [← cutL_join 32 h.data.toList, ← cutL_join 32 (headL _), headL_cut]
    congr 1
    have e : (cutL 32 h.data.toList) = (cutB 32 h).map (fun x => x.data.toList) := by
      unfold cutB
      rw [List.map_map]
      simp [Function.comp_def]
    rw [e, hw]
    simp [q1, q3, q5, q7.1]
  have e : cutL 10 b.data.toList = (cutB 10 b).map (fun x => x.data.toList) := by
    unfold cutB
    rw [List.map_map]
    simp [Function.comp_def]
  rw [e, hb]
  exact ⟨_, by rw [List.map_cons, hl]; rfl⟩
/-- A row is read. -/
theorem DocTo.more {b : ByteArray} {c : Ck} {l : List Sc} {h nm w1 w2 : ByteArray} {a1 a2 : Int} (hd : DocTo b c l) (hb : (cutB 10 b)[l.length + 1]? = some h) (hw : cutB 32 h = [nm, w1, w2]) (hn : nameB nm = true) (n1 : NumIs w1 a1) (n2 : NumIs w2 a2) (h1 : 0 ≤ a1) (h2 : 0 ≤ a2) (h3 : a2 ≤ c.now) (hl : l = [] ∨ ∃ y, l.getLast? = some y ∧ ltN y.1 nm) : DocTo b c (l ++ [(nm, a1, a2)]) := by
  obtain ⟨q1, q2⟩ := n1.back h1
  obtain ⟨q3, q4⟩ := n2.back h2
  obtain ⟨o, hr, r, hc⟩ := hd
  refine ⟨o, hr.snoc hn ⟨h1, q2, h2, q4, h3⟩ hl, ?_⟩
  have hl : h.data.toList = rowL (nm, a1, a2) := by
    rw [← cutL_join 32 h.data.toList, ← cutL_join 32 (rowL _), rowL_cut (x := (nm, a1, a2)) hn]
    congr 1
    have e : (cutL 32 h.data.toList) = (cutB 32 h).map (fun x => x.data.toList) := by
      unfold cutB
      rw [List.map_map]
      simp [Function.comp_def]
    rw [e, hw]
    simp [q1, q3]
  have h4 : (l.map rowL ++ r)[l.length]? = some (rowL (nm, a1, a2)) := by
    unfold cutB at hb
    rw [hc, List.map_cons, List.getElem?_cons_succ, List.getElem?_map] at hb
    obtain ⟨y, hy, hy2⟩ := Option.map_eq_some_iff.1 hb
    rw [hy, ← hl, ← hy2]
  rw [List.getElem?_append_right (by simp)] at h4
  cases r with
  | nil => simp at h4
  | cons y r =>
    simp only [List.length_map, Nat.sub_self, List.getElem?_cons_zero, Option.some.injEq] at h4
    subst h4
    exact ⟨r, by rw [hc, List.map_append, List.append_assoc]; rfl⟩
/-- All rows are read. -/
theorem DocTo.done {b : ByteArray} {c : Ck} {l : List Sc} (hd : DocTo b c l) (h1 : (cutB 10 b).length = l.length + 2) (h2 : (cutB 10 b)[l.length + 1]? = some ⟨#[]⟩) (hsrc : c.src = srcFold l) (ht : ∀ m, Told c m true → m ≤ c.mark) : CodeOf b c l ∧ ∀ c0 l0, CodeOf b c0 l0 → c0 = c := by
  have hd2 := hd
  obtain ⟨o, hr, r, hc⟩ := hd
  have hv : Valid c l := ⟨o, by rw [hsrc]; exact hr.rows, fun x hx => (hr.ok x hx).1, fun x hx => (hr.ok x hx).2.2.2.2.2, ht⟩
  have hr1 : r = [[]] := by
    unfold cutB at h1 h2
    rw [hc] at h1 h2
    simp only [List.length_map, List.length_cons, List.length_append] at h1
    obtain ⟨y, rfl⟩ : ∃ y, r = [y] := List.length_eq_one_iff.1 (by omega)
    rw [List.map_cons, List.getElem?_cons_succ, List.getElem?_map, List.getElem?_append_right (by simp)] at h2
    simp at h2
    rw [h2]
  rw [hr1] at hc
  have hcode := code_of_cut hv hc
  refine ⟨hcode, fun c0 l0 h0 => ?_⟩
  obtain ⟨e1, e2, e3, e4, e5, e6⟩ := hd2.agree h0
  have hlen := (code_lines h0).1
  rw [h1] at hlen
  have hl : l = l0 := List.ext_getElem? (fun k => by
    by_cases hk : k < l.length
    · have := e6 k (l[k]'hk) (List.getElem?_eq_getElem hk)
      rw [this, List.getElem?_eq_getElem hk]
    · rw [List.getElem?_eq_none (by omega), List.getElem?_eq_none (by omega)])
  subst hl
  have hs : c0.src = c.src := by rw [hsrc, srcFold_rows h0.1.rows]
  obtain ⟨a, i, n, m, s⟩ := c
  obtain ⟨a', i', n', m', s'⟩ := c0
  dsimp only at e1 e2 e3 e4 hs
  subst e1 e2 e3 e4 hs
  rfl
end Go.Proofs.YtobkgkiomapabaaGreatDoor
