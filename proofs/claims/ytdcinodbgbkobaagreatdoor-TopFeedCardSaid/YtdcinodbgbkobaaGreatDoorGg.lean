/- items: the rows as the program has them; Same of events. lives of the laws; orders of a list (plain). The document's May, Find, All. Texts, plain: what stands between signs; numbers in digits; the line of a row. The document's Digits. The document's Line. The document's Print. -/
import Derived.Test.YtdcinodbgbkobaaGreatDoorFdL
import Derived.Test.YtdcinodbgbkobaaGreatDoorGa
import Derived.BigQuiet
import Derived.Lib.Join
import Derived.Lib.ItoaLen
import Derived.Lib.AtoiTie
namespace Go.Proofs.YtdcinodbgbkobaaGreatDoor
section
open Go.Shelf Go.RowKit Go.Maps
set_option linter.unusedVariables false

def itOf (i : Nat) (r : Ro) : It := ⟨r.name, r.maker, r.tags, r.stock, r.price, i, decide (i % 2 = 0)⟩
def itsOf (l : List Ro) : List It := l.mapIdx itOf
theorem its_len (l : List Ro) : (itsOf l).length = l.length := by unfold itsOf; simp
theorem its_rows (l : List Ro) : (itsOf l).map roOf = l := by
  unfold itsOf
  apply List.ext_getElem?
  intro i
  rw [List.getElem?_map, List.getElem?_mapIdx]
  cases l[i]? <;> rfl
theorem its_snoc {l : List Ro} {k : Nat} {r : Ro} (h : l[k]? = some r) : itsOf (l.take (k + 1)) = itsOf (l.take k) ++ [itOf k r] := by
  unfold itsOf
  rw [take_snoc h, List.mapIdx_append]
  have : (l.take k).length = k := by
    have := (List.getElem?_eq_some_iff.1 h).1
    rw [List.length_take]; omega
  rw [this]
  simp
theorem it_info : (Tryz.prog.info? 47).map (fun i => (i.zero, i.size, i.bytes)) = some (some (itA it0), 7, 80) := by kernel_rfl
theorem it_one (x : It) : ∀ u ∈ itC x, u.oneCell' = true := by
  intro u hu
  simp only [itC, List.mem_cons, List.not_mem_nil, or_false] at hu
  rcases hu with rfl | rfl | rfl | rfl | rfl | rfl | rfl <;> rfl
theorem it1_row (w : World) (x : It) (t : TypeId) : RowIn (w.alloc (.cells #[.string x.name, .string x.maker, .string x.tags, .int .i64 x.stock, .int .i64 x.price, .int .i64 x.born, .bool x.listed] t)) (w.heap.size + 1) 7 (some ⟨w.heap.size, 0, none⟩) 1 (itC x) := by
  refine ⟨rfl, Or.inr ⟨w.heap.size, 0, rfl, by omega, fun j u hu => ?_⟩⟩
  rw [(Blk.new w t _).cell]
  rw [← hu, Nat.zero_add]
  simp [itC]

theorem own_none_cap {w : World} {base e size n c : Nat} {xs : List Value} (h : w.ownsRow base e size (.slice none n c) n xs) : c = 0 := by
  rcases h.2 with ⟨h1, _⟩ | ⟨g, cap, cur, h1, _⟩
  · injection h1
  · injection h1 with h1
    cases h1


/-- The same event. -/
theorem eq_ev_self (a : ByteArray) (b c d : Int) (e f : ByteArray) (g : Int) (h : ByteArray) (w : World) :
    (Op.equalIn 10000 41 (.agg #[.string a, .int .i64 b, .int .i64 c, .int .i64 d, .string e, .string f, .int .i64 g, .string h]) (.agg #[.string a, .int .i64 b, .int .i64 c, .int .i64 d, .string e, .string f, .int .i64 g, .string h])).run Tryz.prog w = .ok true w := by
  simp [go_sem]


end

section
open Go.Shelf Go.RowKit Go.Maps
set_option linter.unusedVariables false

/-! ### some names there are -/
theorem wh_item {es : List Ev} {t : Int} {p : It → Bool} {y : ByteArray} (h : whB es t p y = true) : y ∈ es.map (·.item) := by
  unfold whB at h
  cases hx : atP es y t with
  | none => rw [hx] at h; cases h
  | some x =>
    have hr : rowOf es y ≠ [] := by
      intro e
      unfold atP at hx
      rw [e] at hx
      cases hx
    obtain ⟨e, he, rfl⟩ := row_ne hr
    exact List.mem_map.2 ⟨e, he, rfl⟩
theorem findR_some {l : List Ro} {n : ByteArray} {r : Ro} (h : findR l n = some r) : r ∈ l ∧ r.name = n := by
  unfold findR at h
  exact ⟨List.mem_of_find?_eq_some h, by simpa using List.find?_some h⟩
theorem findR_mem {l : List Ro} (hd : (l.map (·.name)).Nodup) {r : Ro} (h : r ∈ l) : findR l r.name = some r := by
  induction l with
  | nil => cases h
  | cons a l ih =>
    rw [List.map_cons, List.nodup_cons] at hd
    unfold findR
    rw [List.find?_cons]
    by_cases e : a.name = r.name
    · rw [decide_eq_true e]
      rcases List.mem_cons.1 h with rfl | h
      · rfl
      · exact absurd (by rw [e]; exact List.mem_map.2 ⟨r, h, rfl⟩) hd.1
    · rw [decide_eq_false e]
      rcases List.mem_cons.1 h with rfl | h
      · exact absurd rfl e
      · exact ih hd.2 h
theorem findR_isSome {l : List Ro} {n : ByteArray} : (findR l n).isSome = true ↔ n ∈ l.map (·.name) := by
  unfold findR
  rw [List.find?_isSome, List.mem_map]
  simp
theorem names_ex (es : List Ev) (t : Int) (l : List Ro) : ∃ ns, NamesD es t l ns := by
  refine ⟨_, compN_is ((es.map (·.item) ++ l.map (·.name)).filter fun y => whB es t (fun _ => true) y || (findR l y).isSome) _ (fun y => ?_)⟩
  rw [List.mem_filter]
  refine ⟨fun h => h.2, fun h => ⟨?_, h⟩⟩
  rw [List.mem_append]
  rcases (Bool.or_eq_true_iff).1 h with h | h
  · exact Or.inl (wh_item h)
  · exact Or.inr (findR_isSome.1 h)

/-! ### the order of a list plays no part -/
theorem findR_perm {l l' : List Ro} (hp : l.Perm l') (hd : (l.map (·.name)).Nodup) (n : ByteArray) : findR l n = findR l' n := by
  have hd' : (l'.map (·.name)).Nodup := (hp.map _).nodup_iff.1 hd
  cases h : findR l n with
  | none =>
    cases h' : findR l' n with
    | none => rfl
    | some r =>
      obtain ⟨h1, rfl⟩ := findR_some h'
      rw [findR_mem hd (hp.mem_iff.2 h1)] at h
      cases h
  | some r =>
    obtain ⟨h1, rfl⟩ := findR_some h
    rw [findR_mem hd' (hp.mem_iff.1 h1)]
theorem okL_perm {l l' : List Ro} (hp : l.Perm l') : okL l = okL l' := by
  rw [Bool.eq_iff_iff, okL_iff, okL_iff, hp.length_eq, (hp.map _).nodup_iff]
  simp only [hp.mem_iff]
theorem diff_perm {es : List Ev} {t n : Int} {src : ByteArray} {l l' : List Ro} {o o' : List Ev} (hp : l.Perm l') (h : IsDiff es t src n l o) (h' : IsDiff es t src n l' o') : o = o' := by
  have hg : goesD l src t n = goesD l' src t n := by unfold goesD; rw [okL_perm hp]
  cases hgo : goesD l src t n
  · rw [h.1 hgo, h'.1 (by rw [← hg]; exact hgo)]
  · have hd : (l.map (·.name)).Nodup := by
      unfold goesD at hgo
      rw [Bool.and_eq_true] at hgo
      exact ((okL_iff l).1 hgo.1).2.1
    have hf : findR l = findR l' := funext (findR_perm hp hd)
    obtain ⟨ns, hns⟩ := names_ex es t l
    have hns' : NamesD es t l' ns := by unfold NamesD at hns ⊢; rw [← hf]; exact hns
    rw [h.2 hgo ns hns, h'.2 (by rw [← hg]; exact hgo) ns hns']
    have hr : rawD es t src l ns = rawD es t src l' ns := by unfold rawD tellsOf; rw [hf]
    rw [hr]

/-! ### of what isn't wanted to change nothing is told -/
theorem diff_same {es : List Ev} {t n : Int} {src : ByteArray} {ks : List ByteArray} {o : List Ev} (hk : IsNames (whB es t (fun _ => true)) ks) (h : IsDiff es t src n ((ks.map fun k => (atP es k t).getD it0).map roOf) o) : o = [] := by
  cases hgo : goesD ((ks.map fun k => (atP es k t).getD it0).map roOf) src t n
  · exact h.1 hgo
  · have hall : ∀ k ∈ ks, ∃ x, atP es k t = some x ∧ x.listed = true ∧ x.name = k := by
      intro k hk'
      have hw := (hk.2 k).1 hk'
      unfold whB at hw
      cases hx : atP es k t with
      | none => rw [hx] at hw; cases hw
      | some x =>
        rw [hx] at hw
        simp at hw
        exact ⟨x, rfl, hw, at_name hx⟩
    have hnm : ((ks.map fun k => (atP es k t).getD it0).map roOf).map (·.name) = ks := by
      rw [List.map_map, List.map_map]
      conv => rhs; rw [← List.map_id ks]
      refine List.map_congr_left (fun k hk' => ?_)
      obtain ⟨x, h1, _, h3⟩ := hall k hk'
      simp only [Function.comp, h1, Option.getD_some, id]
      exact h3
    obtain ⟨ns, hns⟩ := names_ex es t ((ks.map fun k => (atP es k t).getD it0).map roOf)
    have hraw : rawD es t src ((ks.map fun k => (atP es k t).getD it0).map roOf) ns = [] := by
      unfold rawD
      rw [List.flatMap_eq_nil_iff]
      intro y hy
      have hyk : y ∈ ks := by
        rcases (Bool.or_eq_true_iff).1 ((hns.2 y).1 hy) with h | h
        · exact (hk.2 y).2 h
        · have := findR_isSome.1 h
          rwa [hnm] at this
      obtain ⟨x, h1, h2, h3⟩ := hall y hyk
      have hfx : findR ((ks.map fun k => (atP es k t).getD it0).map roOf) y = some (roOf x) := by
        have hd : (((ks.map fun k => (atP es k t).getD it0).map roOf).map (·.name)).Nodup := by rw [hnm]; exact hk.nodup
        have hm : roOf x ∈ (ks.map fun k => (atP es k t).getD it0).map roOf := List.mem_map.2 ⟨x, List.mem_map.2 ⟨y, hyk, by rw [h1]; rfl⟩, rfl⟩
        have := findR_mem hd hm
        rwa [show (roOf x).name = y from h3] at this
      unfold tellsOf
      rw [hfx, h1]
      simp [tell1, roOf, h2]
    have := h.2 hgo ns hns
    rw [hraw] at this
    simpa [numD] using this

/-! ### lives -/
def lvR : Ro := ⟨⟨#[120]⟩, ⟨#[109]⟩, ⟨#[]⟩, 3, 0⟩
theorem lv_goes : goesD [lvR] ⟨#[115]⟩ 5 1 = true := by kernel_rfl
theorem lv_raw : rawD [] 5 ⟨#[115]⟩ [lvR] [⟨#[120]⟩] = [⟨⟨#[115]⟩, 0, 5, 11, ⟨#[]⟩, ⟨#[120]⟩, 3, ⟨#[109, 59]⟩⟩] := by kernel_rfl
theorem lv_num : numD 1 [⟨⟨#[115]⟩, 0, 5, 11, ⟨#[]⟩, ⟨#[120]⟩, 3, ⟨#[109, 59]⟩⟩] = [⟨⟨#[115]⟩, 1, 5, 11, ⟨#[]⟩, ⟨#[120]⟩, 3, ⟨#[109, 59]⟩⟩] := by kernel_rfl
theorem lv_names : NamesD [] 5 [lvR] [⟨#[120]⟩] := by
  refine ⟨List.pairwise_singleton _ _, fun y => ?_⟩
  rw [List.mem_singleton]
  have hw : whB [] 5 (fun _ => true) y = false := rfl
  show _ ↔ (whB [] 5 (fun _ => true) y || (findR [lvR] y).isSome) = true
  rw [hw, Bool.false_or, findR_isSome]
  simp [lvR]
theorem lv_out {o : List Ev} (h : IsDiff [] 5 ⟨#[115]⟩ 1 [lvR] o) : o = [⟨⟨#[115]⟩, 1, 5, 11, ⟨#[]⟩, ⟨#[120]⟩, 3, ⟨#[109, 59]⟩⟩] := by
  have := h.2 lv_goes _ lv_names
  rw [lv_raw, if_neg (by simp), lv_num] at this
  exact this


end

section
open Go.Shelf Go.RowKit Go.Maps
set_option linter.unusedVariables false

def roA (r : Ro) : Value := .agg #[.string r.name, .string r.maker, .string r.tags, .int .i64 r.price, .int .i64 r.stock]
theorem withB_lo {n : Int} (h : n < 0) : withB n = false := by unfold withB; exact decide_eq_false (by omega)
theorem withB_hi {n : Int} (h : 1048576 < n) : withB n = false := by unfold withB; exact decide_eq_false (by omega)
theorem withB_in {n : Int} (h : ¬ n < 0) (h2 : ¬ 1048576 < n) : withB n = true := by unfold withB; exact decide_eq_true (by omega)


/-! ### Find -/
theorem findR_at {l : List Ro} {nm : ByteArray} {k : Nat} {r : Ro} (h : l[k]? = some r) (hr : r.name = nm) (hn : ∀ j x, j < k → l[j]? = some x → x.name ≠ nm) : findR l nm = some r := by
  unfold findR
  rw [List.find?_eq_some_iff_getElem]
  obtain ⟨hk, rfl⟩ := List.getElem?_eq_some_iff.1 h
  refine ⟨decide_eq_true hr, k, hk, rfl, fun j hj => ?_⟩
  have := hn j l[j] hj (List.getElem?_eq_getElem _)
  simp [this]
theorem findR_no {l : List Ro} {nm : ByteArray} (hn : ∀ (j : Nat) x, l[j]? = some x → x.name ≠ nm) : findR l nm = none := by
  unfold findR
  rw [List.find?_eq_none]
  intro x hx
  obtain ⟨j, hj⟩ := List.mem_iff_getElem?.1 hx
  simp [hn j x hj]
def FindIs (l : List Ro) (nm : ByteArray) (i : Int) : Prop := (i = -1 ∧ findR l nm = none) ∨ ∃ (k : Nat) (r : Ro), i = k ∧ l[k]? = some r ∧ findR l nm = some r

theorem ro_take' (l : List Ro) (k : Nat) : (l.flatMap roC).take (k * 5) = (l.take k).flatMap roC := by
  induction k generalizing l with
  | zero => simp
  | succ k ih =>
    cases l with
    | nil => simp
    | cons a l =>
      rw [List.flatMap_cons, List.take_succ_cons, List.flatMap_cons, ← ih l, show (k + 1) * 5 = 5 + k * 5 from by omega, List.take_append, roC_len, show 5 + k * 5 - 5 = k * 5 from by omega, List.take_of_length_le (by rw [roC_len]; omega)]
/-- So far all may be. -/
def OkTo (l : List Ro) (k : Nat) : Prop := (∀ r ∈ l.take k, mayR r = true) ∧ ((l.take k).map (·.name)).Nodup
theorem OkTo.next {l : List Ro} {k : Nat} {r : Ro} (h : OkTo l k) (hr : l[k]? = some r) (hm : mayR r = true) (hf : findR (l.take k) r.name = none) : OkTo l (k + 1) := by
  unfold OkTo
  rw [take_snoc hr]
  refine ⟨fun x hx => ?_, ?_⟩
  · rcases List.mem_append.1 hx with h1 | h1
    · exact h.1 x h1
    · rw [List.mem_singleton] at h1
      subst h1
      exact hm
  · rw [List.map_append, List.nodup_append]
    refine ⟨h.2, by simp, fun a ha b hb => ?_⟩
    rw [List.map_cons, List.map_nil, List.mem_singleton] at hb
    subst hb
    intro e
    subst e
    have := findR_isSome.2 ha
    rw [hf] at this
    cases this
theorem okL_bad {l : List Ro} {k : Nat} {r : Ro} (hr : l[k]? = some r) (hm : mayR r = false) : okL l = false := by
  cases h : okL l
  · rfl
  · have := ((okL_iff l).1 h).1 r (List.mem_of_getElem? hr)
    rw [hm] at this
    cases this
theorem okL_two {l : List Ro} {k : Nat} {r : Ro} (hr : l[k]? = some r) {r' : Ro} (hf : findR (l.take k) r.name = some r') : okL l = false := by
  cases h : okL l
  · rfl
  · have h1 := ((okL_iff l).1 h).2.1
    obtain ⟨h2, h3⟩ := findR_some hf
    have h4 := take_snoc hr
    have h5 : ((l.take (k + 1)).map (·.name)).Nodup := by
      rw [List.map_take]
      exact h1.sublist (List.take_sublist _ _)
    rw [h4, List.map_append, List.nodup_append] at h5
    exact absurd rfl (h5.2.2 r'.name (List.mem_map.2 ⟨r', h2, rfl⟩) r'.name (by rw [h3]; simp))



end

section
/-! FdTxt -/
open Go.Shelf Go.RowKit Go.Maps
set_option linter.unusedVariables false

/-! ### numbers -/
def itoaB (n : Int) : ByteArray := ⟨(Lib.itoa n).toArray⟩
def digB (n : Nat) : ByteArray := ⟨(Lib.decDigits n).toArray⟩
theorem itoa_dig (n : Nat) : itoaB (n : Int) = digB n := by unfold itoaB digB; rw [Lib.itoa_nonneg]
theorem dig_data (n : Nat) : (digB n).data.toList = Lib.decDigits n := by unfold digB; simp
theorem itoaB_data (n : Int) : (itoaB n).data.toList = Lib.itoa n := by unfold itoaB; simp
theorem itoaB_size {n : Int} (h0 : -9223372036854775808 ≤ n) (h1 : n ≤ 9223372036854775807) : (itoaB n).size ≤ 21 := by
  have := Lib.itoa_length_le n h0 h1
  show (Lib.itoa n).toArray.size ≤ 21
  simpa using this
/-- What stands behind so far: the digits of m are those of n, and s. -/
def DigTo (m n : Nat) (s : ByteArray) : Prop := digB m = digB n ++ s
theorem DigTo.start (m : Nat) : DigTo m m ⟨#[]⟩ := by
  unfold DigTo
  apply ba_eq
  simp [ByteArray.data_append]
theorem DigTo.next {m n : Nat} {s : ByteArray} (h : DigTo m n s) (hn : 10 ≤ n) : DigTo m (n / 10) (⟨#[UInt8.ofNat (48 + n % 10)]⟩ ++ s) := by
  unfold DigTo at h ⊢
  rw [h]
  apply ba_eq
  simp only [ByteArray.data_append, Array.toList_append, dig_data]
  conv => lhs; rw [Lib.decDigits, dif_neg (by omega)]
  simp
theorem DigTo.fin {m n : Nat} {s : ByteArray} (h : DigTo m n s) (hn : n < 10) : digB m = ⟨#[UInt8.ofNat (48 + n)]⟩ ++ s := by
  unfold DigTo at h
  rw [h]
  apply ba_eq
  simp only [ByteArray.data_append, Array.toList_append, dig_data]
  rw [Lib.decDigits, dif_pos hn]

/-! ### lines -/
def tagsT (t : ByteArray) : ByteArray := if t = ⟨#[]⟩ then ⟨#[46]⟩ else t
def spB : ByteArray := ⟨#[32]⟩
def nlB : ByteArray := ⟨#[10]⟩
def lineW (r : Ro) : List ByteArray := [r.name, r.maker, tagsT r.tags, itoaB r.price, itoaB r.stock]
def lineL (r : Ro) : List UInt8 := Lib.join ((lineW r).map (·.data.toList)) [32]
def lineB (r : Ro) : ByteArray := ⟨(lineL r).toArray⟩
theorem line_eq (r : Ro) : lineB r = r.name ++ spB ++ r.maker ++ spB ++ tagsT r.tags ++ spB ++ itoaB r.price ++ spB ++ itoaB r.stock := by
  apply ba_eq
  unfold lineB lineL lineW spB
  simp [Lib.join, List.intercalate, ByteArray.data_append]
/-- All lines, one behind the other. -/
def linesB : List Ro → ByteArray
  | [] => ⟨#[]⟩
  | r :: l => lineB r ++ nlB ++ linesB l
theorem ba_assoc (a b c : ByteArray) : a ++ b ++ c = a ++ (b ++ c) := by
  apply ba_eq
  simp [ByteArray.data_append]
theorem ba_nil (a : ByteArray) : a ++ (⟨#[]⟩ : ByteArray) = a := by
  apply ba_eq
  simp [ByteArray.data_append]
theorem ba_nil' (a : ByteArray) : (⟨#[]⟩ : ByteArray) ++ a = a := by
  apply ba_eq
  simp [ByteArray.data_append]
theorem text_snoc (l : List Ro) (r : Ro) : linesB (l ++ [r]) = linesB l ++ (lineB r ++ nlB) := by
  induction l with
  | nil => show lineB r ++ nlB ++ (⟨#[]⟩ : ByteArray) = ⟨#[]⟩ ++ _; rw [ba_nil, ba_nil']
  | cons a l ih => show lineB a ++ nlB ++ linesB (l ++ [r]) = lineB a ++ nlB ++ linesB l ++ _; rw [ih, ← ba_assoc]
def printB (l : List Ro) : ByteArray := if okL l = true then linesB l else ⟨#[]⟩
theorem ba_size (a b : ByteArray) : (a ++ b).size = a.size + b.size := by
  show (a ++ b).data.size = _
  rw [ByteArray.data_append, Array.size_append]
  rfl
theorem tagsT_size (t : ByteArray) : (tagsT t).size ≤ t.size + 1 := by
  unfold tagsT
  split
  · show 1 ≤ _; omega
  · omega
theorem line_size {r : Ro} {n : Nat} (hp : -9223372036854775808 ≤ r.price ∧ r.price ≤ 9223372036854775807) (hs : -9223372036854775808 ≤ r.stock ∧ r.stock ≤ 9223372036854775807) (h : r.name.size + r.maker.size + r.tags.size ≤ n) : (lineB r).size ≤ n + 47 := by
  rw [line_eq]
  simp only [ba_size]
  have h1 := itoaB_size hp.1 hp.2
  have h2 := itoaB_size hs.1 hs.2
  have h3 := tagsT_size r.tags
  have h4 : spB.size = 1 := rfl
  omega
theorem text_size {l : List Ro} {n : Nat} (h : ∀ r ∈ l, (lineB r).size ≤ n) : (linesB l).size ≤ l.length * (n + 1) := by
  induction l with
  | nil => show 0 ≤ _; omega
  | cons a l ih =>
    show (lineB a ++ nlB ++ linesB l).size ≤ _
    rw [ba_size, ba_size]
    have h1 := h a (by simp)
    have h2 := ih (fun r hr => h r (by simp [hr]))
    have h3 : nlB.size = 1 := rfl
    rw [List.length_cons, Nat.succ_mul]
    omega

/-! FdDig -/
open Go.Shelf Go.RowKit Go.Maps
set_option linter.unusedVariables false

theorem dig_small {n : Nat} (hn : n ≤ 1000000000) : (digB n).size ≤ 21 := by
  have := itoaB_size (n := (n : Int)) (by omega) (by omega)
  rwa [itoa_dig] at this
theorem DigTo.few {m n : Nat} {s : ByteArray} (h : DigTo m n s) (hm : m ≤ 1000000000) : s.size ≤ 21 := by
  have h1 := dig_small hm
  unfold DigTo at h
  rw [h, ba_size] at h1
  omega
theorem one_back (w : World) (b : UInt8) (z : Int) (hz : z = (b.toNat : Int)) : (convert 22 9 (.slice (some ⟨w.heap.size, 0, none⟩) 1 1)).run Tryz.prog (w.alloc (.cells #[.int .u8 z] 5)) = .ok (.string ⟨#[b]⟩) (w.alloc (.cells #[.int .u8 z] 5)) := by
  subst hz
  have HK : Blk (w.alloc (.cells #[.int .u8 (b.toNat : Int)] 5)) w.heap.size 5 #[.int .u8 (b.toNat : Int)] := Blk.new _ _ _
  exact run_convert_bytes_back (P := Tryz.prog) _ 22 9 5 ⟨w.heap.size, 0, none⟩ 1 [b] Tryz.underlying22 Tryz.underlying5 Tryz.underlying9 (fun j hj => by
    obtain rfl : j = 0 := by simpa using hj
    exact HK.cell 0)

/-! FdRLine -/
open Go.Shelf Go.RowKit Go.Maps
set_option linter.unusedVariables false


/-! FdRPrint -/
open Go.Shelf Go.RowKit Go.Maps
set_option linter.unusedVariables false

theorem rolines_next {l : List Ro} {k : Nat} {x : Ro} (h : l[k]? = some x) : linesB (l.take (k + 1)) = linesB (l.take k) ++ (lineB x ++ nlB) := by
  rw [List.take_add_one, h]
  exact text_snoc _ _
theorem mayR_num {r : Ro} (h : mayR r = true) : (0 ≤ r.price ∧ r.price ≤ 1048576) ∧ (0 ≤ r.stock ∧ r.stock ≤ 1048576) := by
  unfold mayR withB at h
  simp only [Bool.and_eq_true, decide_eq_true_eq] at h
  exact ⟨h.2.2.1, h.2.2.2.1⟩
theorem roline_few {r : Ro} (h : RoFew r) (hm : mayR r = true) : (lineB r).size ≤ 1000047 := by
  have hn := mayR_num hm
  unfold RoFew at h
  exact line_size ⟨by omega, by omega⟩ ⟨by omega, by omega⟩ (by omega)
theorem rolines_few {l : List Ro} (h : ∀ x ∈ l, (lineB x).size ≤ 1000047) (hn : l.length ≤ 1000) (k : Nat) : (linesB (l.take k)).size ≤ 1000048000 := by
  have h1 := text_size (l := l.take k) (n := 1000047) (fun r hr => h r (List.mem_of_mem_take hr))
  have h2 : (l.take k).length ≤ 1000 := by
    rw [List.length_take]; omega
  have h3 := Nat.mul_le_mul_right (1000047 + 1) h2
  omega


end

end Go.Proofs.YtdcinodbgbkobaaGreatDoor
