/- The document's in, Put of layer 16. -/
import Derived.Test.YtcgangmmehbdoaaDoorStr
namespace Go.Proofs.YtcgangmmehbdoaaDoor
open Go.Shelf Go.RowKit Go.Maps
set_option linter.unusedVariables false

set_option maxHeartbeats 1000000 in
set_option maxRecDepth 100000 in
theorem rin_any (w : World) (B : Nat) (A : Option Addr) (l : List ByteArray) (n c : Nat) (s : ByteArray) (hn : l.length = n) (hl : RowIn w B 1 A n (l.map .string)) (hb : n ≤ 1000000) :
    Calls Tryd.prog 46 #[.slice A n c, .string s] w fun e w' => e = .returned (.bool (memB s l)) ∧ w = w' := by
  have HN := Lib.hid hn
  have HL := Lib.hid hl
  clear hn hl
  go_enter Tryd.func46, Tryd.ntmps46
  go_wp2_with fail
  go_loopw [5] (fun i wr => ∃ k : Nat, k ≤ n ∧ i = .int .i64 k ∧ Hid (∀ j t, j < k → l[j]? = some t → t ≠ s) ∧ wr = w) (fun i _ => n - (intOf i).toNat)
  case atStart => exact ⟨0, Nat.zero_le _, rfl, Lib.hid (fun j t hj => by omega), rfl⟩
  case round =>
    obtain ⟨k, hk, rfl, hok, rfl⟩ := hrel
    by_cases hlt : k < n
    · obtain ⟨t, ht⟩ : ∃ t, l[k]? = some t := ⟨l[k]'(by rw [HN.out]; exact hlt), List.getElem?_eq_getElem _⟩
      obtain ⟨g, o, rfl, _, hc⟩ := HL.out.at (by omega)
      have e0 : wr.cell? ⟨g, o + k, none⟩ = some (.string t) := hc k _ (by simp [ht])
      have HTK := Lib.hid ht
      have hk8 : (k : Int) < (n : Int) := by omega
      have hk9 : (0 : Int) ≤ (k : Int) := by omega
      clear ht hc
      by_cases he : t = s
      · have HE := Lib.hid he
        have q1 : (t.toList == s.toList) = true := (beq_list t s).2 he
        clear he
        go_wp2_with fail
        go_ret
        exact ⟨ret_bool ((memB_iff _ _).2 (by rw [← HE.out]; exact List.mem_of_getElem? HTK.out)).symm, rfl⟩
      · have HE := Lib.hid he
        have q1 : (t.toList == s.toList) = false := Bool.eq_false_iff.2 (fun e => he ((beq_list t s).1 e))
        clear he
        go_wp2_with fail
        go_roundw
        case rel =>
          refine ⟨k + 1, by omega, by go_num, Lib.hid (fun j u hj hu => ?_), by trivial⟩
          by_cases e : j = k
          · subst e; rw [HTK.out] at hu; cases hu; exact HE.out
          · exact hok.out j u (by omega) hu
        case measure => simp [intOf]; omega
    · have HF : Hid (memB s l = false) := Lib.hid (by
        cases hm : memB s l
        · rfl
        · obtain ⟨j, hj⟩ := List.mem_iff_getElem?.1 ((memB_iff _ _).1 hm)
          have := (List.getElem?_eq_some_iff.1 hj).1
          rw [HN.out] at this
          exact absurd rfl (hok.out j s (by omega) hj))
      go_wp2_with fail
      go_ret
      exact ⟨ret_bool HF.out.symm, rfl⟩

/-- How far the row with s is, behind k. -/
def PutTo (l : List ByteArray) (s : ByteArray) (k : Nat) (done : Bool) (out : List ByteArray) : Prop :=
  out.Pairwise ltN ∧ (done = false → out = l.take k ∧ ∀ x ∈ l.take k, ltN x s) ∧ (done = true → (∀ y, y ∈ out ↔ y ∈ l.take k ∨ y = s) ∧ ∀ j x, k ≤ j → l[j]? = some x → ltN s x)
theorem rise_at {l : List ByteArray} (h : l.Pairwise ltN) {i j : Nat} {x y : ByteArray} (hij : i < j) (hx : l[i]? = some x) (hy : l[j]? = some y) : ltN x y := by
  obtain ⟨hi, rfl⟩ := List.getElem?_eq_some_iff.1 hx
  obtain ⟨hj, rfl⟩ := List.getElem?_eq_some_iff.1 hy
  exact List.pairwise_iff_getElem.1 h i j hi hj hij
theorem take_lt {l : List ByteArray} (h : l.Pairwise ltN) {k : Nat} {x y : ByteArray} (hx : l[k]? = some x) (hy : y ∈ l.take k) : ltN y x := by
  obtain ⟨i, hi⟩ := List.mem_iff_getElem?.1 hy
  rw [List.getElem?_take] at hi
  split at hi
  · rename_i hik; exact rise_at h hik hi hx
  · cases hi
theorem snoc_rise {l : List ByteArray} (h : l.Pairwise ltN) {x : ByteArray} (hx : ∀ y ∈ l, ltN y x) : (l ++ [x]).Pairwise ltN := by
  rw [List.pairwise_append]
  exact ⟨h, List.pairwise_singleton _ _, fun a ha b hb => by simp at hb; subst hb; exact hx a ha⟩
section
variable {l : List ByteArray} {s x : ByteArray} {k : Nat} {out : List ByteArray}
theorem PutTo.on (h : PutTo l s k true out) (hr : l.Pairwise ltN) (hx : l[k]? = some x) : PutTo l s (k + 1) true (out ++ [x]) := by
  obtain ⟨h1, _, h3⟩ := h
  obtain ⟨h4, h5⟩ := h3 rfl
  refine ⟨snoc_rise h1 (fun y hy => ?_), fun h => (by cases h), fun _ => ⟨fun y => ?_, fun j z hj hz => h5 j z (by omega) hz⟩⟩
  · rcases (h4 y).1 hy with h6 | rfl
    · exact take_lt hr hx h6
    · exact h5 k x (Nat.le_refl _) hx
  · have htk : l.take (k + 1) = l.take k ++ [x] := by rw [List.take_add_one, hx]; rfl
    rw [List.mem_append, h4, htk, List.mem_append, List.mem_singleton]
    constructor
    · rintro ((h | h) | h)
      · exact Or.inl (Or.inl h)
      · exact Or.inr h
      · exact Or.inl (Or.inr h)
    · rintro ((h | h) | h)
      · exact Or.inl (Or.inl h)
      · exact Or.inr h
      · exact Or.inl (Or.inr h)
theorem PutTo.here (h : PutTo l s k false out) (hr : l.Pairwise ltN) (hx : l[k]? = some x) (hsx : ltN s x) : PutTo l s (k + 1) true ((out ++ [s]) ++ [x]) := by
  obtain ⟨h1, h2, _⟩ := h
  obtain ⟨rfl, h3⟩ := h2 rfl
  refine PutTo.on ⟨snoc_rise h1 h3, fun h => (by cases h), fun _ => ⟨fun y => by rw [List.mem_append, List.mem_singleton], fun j z hj hz => ?_⟩⟩ hr hx
  by_cases e : j = k
  · subst e; rw [hx] at hz; cases hz; exact hsx
  · exact ltN_trans hsx (rise_at hr (by omega) hx hz)
theorem PutTo.past (h : PutTo l s k false out) (hr : l.Pairwise ltN) (hx : l[k]? = some x) (hsx : ¬ ltN s x) (hne : x ≠ s) : PutTo l s (k + 1) false (out ++ [x]) := by
  obtain ⟨h1, h2, _⟩ := h
  obtain ⟨rfl, h3⟩ := h2 rfl
  have htk : l.take (k + 1) = l.take k ++ [x] := by rw [List.take_add_one, hx]; rfl
  refine ⟨snoc_rise h1 (fun y hy => take_lt hr hx hy), fun _ => ⟨htk.symm, fun y hy => ?_⟩, fun h => (by cases h)⟩
  rw [htk, List.mem_append, List.mem_singleton] at hy
  rcases hy with hy | rfl
  · exact h3 y hy
  · exact ltN_of hsx (Ne.symm hne)
end

set_option maxHeartbeats 2000000 in
set_option maxRecDepth 100000 in
theorem rput_any (w : World) (A : Option Addr) (l : List ByteArray) (n c : Nat) (s : ByteArray) (base : Nat) (hn : l.length = n) (hown : w.ownsRow base 9 1 (.slice A n c) n (l.map .string)) (hbase : base ≤ w.heap.size) (hr : l.Pairwise ltN) (hb : n ≤ 100000) :
    Calls Tryd.prog 27 #[.slice A n c, .string s] w fun e w' => ∃ (A' : Option Addr) (c' : Nat) (out : List ByteArray), e = .returned (.slice A' out.length c') ∧ w'.ownsRow base 9 1 (.slice A' out.length c') out.length (out.map .string) ∧ (out.Pairwise ltN ∧ ∀ y, y ∈ out ↔ y ∈ l ∨ y = s) ∧ out.length ≤ n + 1 ∧ Below w.heap.size w w' := by
  have HN := Lib.hid hn
  have HL := Lib.hid (RowIn.of_own hown)
  have HR := Lib.hid hr
  have HOW := Lib.hid hown
  have HIN := Lib.hid (rin_any w w.heap.size A l n c s hn HL.out (by omega))
  have HOE := Lib.hid (own_empty w 9 1)
  obtain ⟨w1, hw1⟩ : ∃ w1, w.alloc (.cells #[] 9) = w1 := ⟨_, rfl⟩
  rw [hw1] at HOE
  have HB1 : Hid (Below w.heap.size w w1) := Lib.hid (by rw [← hw1]; exact (Below.refl _ _).alloc (Nat.le_refl _) _)
  obtain ⟨i0, hi0, hz0, hz1, hz2⟩ := info_parts str_info
  clear hn hr hown
  go_enter Tryd.func27, Tryd.ntmps27
  go_wp2_with fail
  refine HIN.out.mono ?_
  rintro e w2 ⟨rfl, rfl⟩
  clear HIN
  cases hmem : memB s l
  rotate_left
  · have HMM : Hid (s ∈ l) := Lib.hid ((memB_iff _ _).1 hmem)
    clear hmem
    go_wp2_with fail
    go_ret
    refine ⟨A, c, l, by rw [HN.out]; rfl, by rw [HN.out]; exact HOW.out, ⟨HR.out, fun y => ⟨Or.inl, fun h => h.elim id (fun h => by rw [h]; exact HMM.out)⟩⟩, by rw [HN.out]; omega, Below.refl _ _⟩
  have HNM : Hid (∀ x ∈ l, x ≠ s) := Lib.hid (fun x hx e => by rw [e] at hx; rw [(memB_iff _ _).2 hx] at hmem; cases hmem)
  clear hmem
  go_wp2_with fail
  clear hw1
  go_loopw [5, 6, 7] (fun v d i wr => ∃ (k : Nat) (dn : Bool) (out : List ByteArray), k ≤ n ∧ i = .int .i64 k ∧ d = .bool dn ∧ Hid (out.length ≤ k + 1 ∧ (dn = false → out.length ≤ k)) ∧ Hid (PutTo l s k dn out) ∧ Hid (wr.ownsRow w.heap.size 9 1 v out.length (out.map .string)) ∧ Hid (Below w.heap.size w wr)) (fun _ _ i _ => n - (intOf i).toNat)
  case atStart => exact ⟨0, false, [], Nat.zero_le _, rfl, rfl, Lib.hid ⟨Nat.zero_le _, fun _ => Nat.le_refl _⟩, Lib.hid ⟨List.Pairwise.nil, fun _ => ⟨rfl, fun x hx => (by cases hx)⟩, fun h => (by cases h)⟩, HOE, HB1⟩
  case round =>
    clear HOE HB1
    obtain ⟨k, dn, out, hk, rfl, rfl, hlo, hput, hrow, hbw⟩ := hrel
    obtain ⟨A5, c5, hq⟩ := own_shape hrow.out
    rw [hq] at hrow ⊢
    clear hq
    have hwz := hbw.out.size
    obtain ⟨m, hm⟩ : ∃ m, out.length = m := ⟨_, rfl⟩
    rw [hm] at hlo hrow ⊢
    have HM := Lib.hid hm
    obtain ⟨hlo1, hlo2⟩ := hlo.out
    clear hm hlo
    by_cases hlt : k < n
    · obtain ⟨x, hx⟩ : ∃ x, l[k]? = some x := ⟨l[k]'(by rw [HN.out]; exact hlt), List.getElem?_eq_getElem _⟩
      obtain ⟨g, o, rfl, hgB, hcl⟩ := HL.out.at (by omega)
      have HE0 : Hid (∀ W, Below w.heap.size w W → W.cell? ⟨g, o + k, none⟩ = some (.string x)) := Lib.hid (fun W hW => (hW.cell (p := ⟨g, o + k, none⟩) hgB).trans (hcl k _ (by simp [hx])))
      have e0 := HE0.out wr hbw.out
      have HX := Lib.hid hx
      have HXS : Hid (x ≠ s) := Lib.hid (HNM.out x (List.mem_of_getElem? hx))
      have hk8 : (k : Int) < (n : Int) := by omega
      have hk9 : (0 : Int) ≤ (k : Int) := by omega
      clear hcl hx
      cases dn
      · cases hlt2 : Op.bytesLess s.toList x.toList
        · have HP : Hid (PutTo l s (k + 1) false (out ++ [x])) := Lib.hid (hput.out.past HR.out HX.out (fun h => by rw [(less_iff s x).2 h] at hlt2; cases hlt2) HXS.out)
          have hlo3 := hlo2 rfl
          clear hlo2
          go_wp2_with (first
            | (at_builtin; refine wpList_append_row _ rfl _ _ 61 rfl w.heap.size 9 i0 _ 1 16 Tryd.underlying61 hi0 hz0 hz1 hz2 rfl (by omega) (.slice A5 m c5) m _ rfl (hrow.out.alloc _) (wr.heap.size + 1) (some ⟨wr.heap.size, 0, none⟩) 1 1 [.string x] rfl (one_str wr x _) (fun h => by cases h) (fun u hu => by rw [List.mem_singleton] at hu; subst hu; rfl) (by unfold maxLen; omega) (by omega) (by simp; omega) ?_; intro v7 w7 ho7 hg7 hv7))
          go_roundw
          case rel =>
            refine ⟨k + 1, false, out ++ [x], by omega, by go_num, rfl, Lib.hid ?_, HP, Lib.hid ?_, Lib.hid ((hbw.out.alloc hwz _).grown hg7 (by simp; omega) (fun j hj => (hrow.out.lt _ hj).1))⟩
            · rw [List.length_append, HM.out]; simp; omega
            · rw [List.length_append, HM.out, List.map_append]; exact ho7
          case measure => simp [intOf]; omega
        · have HP : Hid (PutTo l s (k + 1) true ((out ++ [s]) ++ [x])) := Lib.hid (hput.out.here HR.out HX.out ((less_iff s x).1 hlt2))
          have hlo3 := hlo2 rfl
          clear hlo2
          go_wp2_with (first
            | (at_builtin; refine wpList_append_row _ rfl _ _ 61 rfl w.heap.size 9 i0 _ 1 16 Tryd.underlying61 hi0 hz0 hz1 hz2 rfl (by omega) (.slice A5 m c5) m _ rfl (hrow.out.alloc _) (wr.heap.size + 1) (some ⟨wr.heap.size, 0, none⟩) 1 1 [.string s] rfl (one_str wr s _) (fun h => by cases h) (fun u hu => by rw [List.mem_singleton] at hu; subst hu; rfl) (by unfold maxLen; omega) (by omega) (by simp; omega) ?_; intro v7 w7 ho7 hg7 hv7; obtain ⟨A7, c7, hv⟩ := own_shape ho7; subst hv; have HB7 : Hid (Below w.heap.size w w7) := Lib.hid ((hbw.out.alloc hwz _).grown hg7 (by simp; omega) (fun j hj => (hrow.out.lt _ hj).1)); have HO7 := Lib.hid ho7; have e7 := HE0.out w7 HB7.out; have hz7 := HB7.out.size; clear ho7 hg7 hv7)
            | (at_builtin; refine wpList_append_row _ rfl _ _ 61 rfl w.heap.size 9 i0 _ 1 16 Tryd.underlying61 hi0 hz0 hz1 hz2 rfl (by omega) (.slice A7 (m + 1) c7) (m + 1) _ rfl (HO7.out.alloc _) (w7.heap.size + 1) (some ⟨w7.heap.size, 0, none⟩) 1 1 [.string x] rfl (one_str w7 x _) (fun h => by cases h) (fun u hu => by rw [List.mem_singleton] at hu; subst hu; rfl) (by unfold maxLen; omega) (by omega) (by simp; omega) ?_; intro v8 w8 ho8 hg8 hv8))
          go_roundw
          case rel =>
            refine ⟨k + 1, true, (out ++ [s]) ++ [x], by omega, by go_num, rfl, Lib.hid ?_, HP, Lib.hid ?_, Lib.hid ((HB7.out.alloc HB7.out.size _).grown hg8 (by simp; omega) (fun j hj => (HO7.out.lt _ hj).1))⟩
            · rw [List.length_append, List.length_append, HM.out]; simp; omega
            · rw [List.length_append, List.length_append, HM.out, List.map_append, List.map_append]; exact ho8
          case measure => simp [intOf]; omega
      · have HP : Hid (PutTo l s (k + 1) true (out ++ [x])) := Lib.hid (hput.out.on HR.out HX.out)
        clear hlo2
        go_wp2_with (first
          | (at_builtin; refine wpList_append_row _ rfl _ _ 61 rfl w.heap.size 9 i0 _ 1 16 Tryd.underlying61 hi0 hz0 hz1 hz2 rfl (by omega) (.slice A5 m c5) m _ rfl (hrow.out.alloc _) (wr.heap.size + 1) (some ⟨wr.heap.size, 0, none⟩) 1 1 [.string x] rfl (one_str wr x _) (fun h => by cases h) (fun u hu => by rw [List.mem_singleton] at hu; subst hu; rfl) (by unfold maxLen; omega) (by omega) (by simp; omega) ?_; intro v7 w7 ho7 hg7 hv7))
        go_roundw
        case rel =>
          refine ⟨k + 1, true, out ++ [x], by omega, by go_num, rfl, Lib.hid ?_, HP, Lib.hid ?_, Lib.hid ((hbw.out.alloc hwz _).grown hg7 (by simp; omega) (fun j hj => (hrow.out.lt _ hj).1))⟩
          · rw [List.length_append, HM.out]; simp; omega
          · rw [List.length_append, HM.out, List.map_append]; exact ho7
        case measure => simp [intOf]; omega
    · obtain rfl : n = k := by omega
      have htl : l.take n = l := by rw [← HN.out, List.take_length]
      cases dn
      · obtain ⟨p1, p2, _⟩ := hput.out
        obtain ⟨p3, p4⟩ := p2 rfl
        rw [htl] at p3 p4
        have HPF : Hid ((out ++ [s]).Pairwise ltN ∧ ∀ y, y ∈ out ++ [s] ↔ y ∈ l ∨ y = s) := Lib.hid ⟨snoc_rise p1 (by rw [p3]; exact p4), fun y => by rw [List.mem_append, List.mem_singleton, p3]⟩
        have hlo3 := hlo2 rfl
        clear p1 p2 p3 p4 hput htl hlo2
        go_wp2_with (first
          | (at_builtin; refine wpList_append_row _ rfl _ _ 61 rfl w.heap.size 9 i0 _ 1 16 Tryd.underlying61 hi0 hz0 hz1 hz2 rfl (by omega) (.slice A5 m c5) m _ rfl (hrow.out.alloc _) (wr.heap.size + 1) (some ⟨wr.heap.size, 0, none⟩) 1 1 [.string s] rfl (one_str wr s _) (fun h => by cases h) (fun u hu => by rw [List.mem_singleton] at hu; subst hu; rfl) (by unfold maxLen; omega) (by omega) (by simp; omega) ?_; intro v7 w7 ho7 hg7 hv7))
        obtain ⟨A7, c7, hv⟩ := own_shape ho7
        subst hv
        go_ret
        refine ⟨A7, c7, out ++ [s], ?_, ?_, HPF.out, ?_, (hbw.out.alloc hwz _).grown hg7 (by simp; omega) (fun j hj => (hrow.out.lt _ hj).1)⟩
        · rw [List.length_append, HM.out]; rfl
        · rw [List.length_append, HM.out, List.map_append]; exact own_mono ho7 hbase
        · rw [List.length_append, HM.out]; simp; omega
      · obtain ⟨p1, _, p3⟩ := hput.out
        obtain ⟨p4, _⟩ := p3 rfl
        rw [htl] at p4
        have HPF : Hid (out.Pairwise ltN ∧ ∀ y, y ∈ out ↔ y ∈ l ∨ y = s) := Lib.hid ⟨p1, p4⟩
        clear p1 p3 p4 hput htl hlo2
        go_wp2_with fail
        go_ret
        refine ⟨A5, c5, out, by rw [HM.out]; rfl, by rw [HM.out]; exact own_mono hrow.out hbase, HPF.out, by rw [HM.out]; omega, hbw.out⟩

end Go.Proofs.YtcgangmmehbdoaaDoor
