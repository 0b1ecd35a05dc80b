/- Changes of the program: the ticks of a thing, each once. -/
import Derived.Test.YtpnfnmpohacnoaaDoorCatApply
import Derived.Test.YtpnfnmpohacnoaaDoorLay2
import Derived.Lib.SlicesCompact
namespace Go.Proofs.YtpnfnmpohacnoaaDoor
open Go.Shelf Go.RowKit Go.Maps
set_option linter.unusedVariables false

theorem snoc_ind {α : Type} {p : List α → Prop} (l : List α) (nil : p []) (snoc : ∀ l a, p l → p (l ++ [a])) : p l := by
  have : ∀ r : List α, p r.reverse := by
    intro r
    induction r with
    | nil => exact nil
    | cons a r ih => rw [List.reverse_cons]; exact snoc _ _ ih
  have h := this l.reverse
  rwa [List.reverse_reverse] at h

/-- Each once, of a row in which equal ones stand together. -/
def chgStep (out : List Int) (z : Int) : List Int := if out.getLast? = some z then out else out ++ [z]
def chgL (l : List Int) : List Int := l.foldl chgStep []
theorem chgL_snoc (l : List Int) (z : Int) : chgL (l ++ [z]) = if (chgL l).getLast? = some z then chgL l else chgL l ++ [z] := by
  unfold chgL
  rw [List.foldl_append]
  rfl
theorem chgL_last (l : List Int) : (chgL l).getLast? = l.getLast? := by
  induction l using snoc_ind with
  | nil => rfl
  | snoc l z ih =>
    rw [chgL_snoc, List.getLast?_concat]
    split
    · assumption
    · rw [List.getLast?_concat]
theorem chgL_mem (l : List Int) (z : Int) : z ∈ chgL l ↔ z ∈ l := by
  induction l using snoc_ind with
  | nil => rfl
  | snoc l y ih =>
    rw [chgL_snoc]
    split
    · rename_i h
      rw [ih, List.mem_append]
      constructor
      · exact Or.inl
      · rintro (h1 | h1)
        · exact h1
        · obtain rfl : z = y := by simpa using h1
          rw [chgL_last] at h
          exact List.mem_of_getLast? h
    · rw [List.mem_append, ih, List.mem_append]
theorem chgL_len (l : List Int) : (chgL l).length ≤ l.length := by
  induction l using snoc_ind with
  | nil => exact Nat.le_refl _
  | snoc l y ih =>
    rw [chgL_snoc]
    split <;> simp <;> omega
theorem chgL_rise {l : List Int} (h : l.Pairwise (· ≤ ·)) : (chgL l).Pairwise (· < ·) := by
  induction l using snoc_ind with
  | nil => exact List.Pairwise.nil
  | snoc l y ih =>
    rw [List.pairwise_append] at h
    have ih := ih h.1
    rw [chgL_snoc]
    split
    · exact ih
    · rename_i hn
      rw [List.pairwise_append]
      refine ⟨ih, List.pairwise_singleton _ _, fun a ha b hb => ?_⟩
      obtain rfl : b = y := by simpa using hb
      cases hl : (chgL l).getLast? with
      | none => rw [List.getLast?_eq_none_iff] at hl; rw [hl] at ha; cases ha
      | some m =>
        have hm : m ≤ b := h.2.2 m (by rw [← chgL_mem]; exact List.mem_of_getLast? hl) b (by simp)
        have hne : m ≠ b := fun e => hn (by rw [hl, e])
        obtain ⟨ys, hy⟩ := List.getLast?_eq_some_iff.1 hl
        rw [hy] at ha ih
        rcases List.mem_append.1 ha with h1 | h1
        · have := (List.pairwise_append.1 ih).2.2 a h1 m (by simp)
          omega
        · obtain rfl : a = m := by simpa using h1
          omega
theorem chgL_head (l : List Int) : (chgL l).head? = l.head? := by
  induction l using snoc_ind with
  | nil => rfl
  | snoc l y ih =>
    rw [chgL_snoc]
    cases l with
    | nil => rfl
    | cons a l =>
      have : chgL (a :: l) ≠ [] := fun e => by
        have := (chgL_mem (a :: l) a).2 (by simp)
        rw [e] at this; cases this
      split
      · rw [ih]; rfl
      · cases hc : chgL (a :: l) with
        | nil => exact absurd hc this
        | cons b t => rw [hc] at ih; simpa using ih
theorem compact_upto (zs : List Int) : ∀ m, m ≤ zs.length → Lib.compactUpTo zs.toArray m = chgL (zs.take m)
  | 0, _ => by simp [Lib.compactUpTo, chgL]
  | m + 1, h => by
    rw [Lib.compactUpTo_succ, compact_upto zs m (by omega)]
    have hm : zs[m]? = some (zs[m]'(by omega)) := List.getElem?_eq_getElem _
    have hd : zs.toArray[m]! = zs[m]'(by omega) := by simp [show m < zs.length from by omega]
    rw [List.take_add_one, hm, Option.toList_some, chgL_snoc, chgL_last]
    rcases Nat.eq_zero_or_pos m with h0 | h0
    · subst h0
      rw [Lib.keeps_lt_one _ 0 (by omega), if_pos rfl, hd]
      simp
    · have hm1 : zs[m - 1]? = some (zs[m - 1]'(by omega)) := List.getElem?_eq_getElem _
      have hd1 : zs.toArray[m - 1]! = zs[m - 1]'(by omega) := by simp [show m - 1 < zs.length from by omega]
      have hlast : (zs.take m).getLast? = some (zs[m - 1]'(by omega)) := by
        rw [List.getLast?_eq_getElem?, List.length_take, Nat.min_eq_left (by omega), List.getElem?_take_of_lt (by omega), hm1]
      rw [hlast]
      by_cases he : zs[m]'(by omega) = zs[m - 1]'(by omega)
      · rw [Lib.keeps_neg h0 (by rw [hd, hd1, he]), if_neg (by simp), he, if_pos rfl, List.append_nil]
      · rw [Lib.keeps_pos (by rw [hd, hd1]; exact he), if_pos rfl, if_neg (fun e => he (Option.some.inj e).symm), hd]
theorem compact_is (zs : List Int) : Lib.compact zs = chgL zs := by
  unfold Lib.compact
  rw [compact_upto zs zs.length (Nat.le_refl _), List.take_length]

theorem frozen_own {w : World} {base e size n c : Nat} {g : Nat} {xs : List Value} (h : w.ownsRow base e size (.slice (some ⟨g, 0, none⟩) n c) n xs) : ∀ j, w.frozen? ⟨g, j, none⟩ = false := by
  intro j
  rcases h.2 with ⟨h, _⟩ | ⟨g', cap', cur, h, _, hh, _⟩
  · cases h
  · injection h with h
    injection h with h
    injection h with h
    subst h
    simp [World.frozen?, hh]

theorem compact_any (w : World) (base : Nat) (A : Option Addr) (zs : List Int) (n c : Nat) (hn : zs.length = n) (hl : w.ownsRow base 3 1 (.slice A n c) n (zs.map (.int .i64))) (hb : n ≤ 1000000) :
    Calls Tryd.prog 25 #[.slice A n c] w fun e w' => e = .returned (.slice A (chgL zs).length c) ∧ RowIn w' w'.heap.size 1 A (chgL zs).length ((chgL zs).map (.int .i64)) ∧ Below base w w' := by
  rcases Nat.eq_zero_or_pos n with h0 | h0
  · subst h0
    obtain rfl : zs = [] := List.eq_nil_of_length_eq_zero hn
    refine (Any.slices_Compact_int_empty Tryd.laysCompact A c w).mono ?_
    rintro e w' ⟨rfl, rfl⟩
    exact ⟨rfl, RowIn.nil _ _ _ _, Below.refl _ _⟩
  · obtain ⟨g, cap, hv, hg, hlt⟩ := hl.form h0
    injection hv with hA _ hc
    subst hA
    subst hc
    have hcap : n ≤ c := by
      rcases hl.2 with ⟨h, _⟩ | ⟨g', cap', cur, h, h2, h3, h4⟩
      · cases h
      · injection h with _ _ h
        subst h
        exact h4.1
    have hcells := hl.cells (g := g) rfl
    have hH : Sort.Holds (Value.int .i64) w g 0 zs.toArray := by
      intro j hj
      have hj' : j < zs.length := by simpa using hj
      have hgj : zs.toArray[j]! = zs[j] := by simp [hj']
      refine ⟨?_, frozen_own hl _⟩
      rw [hgj]
      have := hcells j (.int .i64 zs[j]) (by simp [hj'])
      rwa [at_add] at this
    have hcon := Any.slices_Compact_int Tryd.laysCompact g 0 c zs w hH (by omega) (by omega)
    rw [hn] at hcon
    refine hcon.mono ?_
    rintro e w' ⟨rfl, q, rfl⟩
    rw [compact_is]
    have hds : (chgL zs ++ List.replicate (zs.length - (chgL zs).length) (0 : Int)).toArray.size = zs.toArray.size := by
      have := chgL_len zs
      simp
      omega
    have hH2 := Sort.holds_putRow (Value.int .i64) (Sort.ahead w q) g 0 zs.toArray _ (Sort.holds_ahead (Value.int .i64) w q g 0 zs.toArray hH) hds
    have hlen := chgL_len zs
    rw [← hn]
    refine ⟨rfl, ?_, ?_⟩
    · refine ⟨by simp, Or.inr ⟨g, 0, rfl, ?_, fun j u hu => ?_⟩⟩
      · rw [Sort.size_putRow]; exact hlt
      · obtain ⟨hj, rfl⟩ := List.getElem?_eq_some_iff.1 hu
        rw [List.length_map] at hj
        have h1 := (hH2 j (by rw [hds]; simp; omega)).1
        rw [h1]
        simp [hj, List.getElem?_append_left hj]
    · refine ⟨rfl, rfl, rfl, ?_, fun i hi => ?_⟩
      · rw [Sort.size_putRow]; exact Nat.le_refl _
      · simp only [Sort.putRow, Sort.mapBlock, Array.getElem?_modify]
        rw [if_neg (by omega)]
        rfl

theorem int_info : (Tryd.prog.info? 3).map (fun i => (i.zero, i.size, i.bytes)) = some (some (.int .i64 0), 1, 8) := by kernel_rfl
theorem one_int (w : World) (z : Int) (t : TypeId) : RowIn (w.alloc (.cells #[.int .i64 z] t)) (w.heap.size + 1) 1 (some ⟨w.heap.size, 0, none⟩) 1 [.int .i64 z] := by
  refine ⟨rfl, Or.inr ⟨w.heap.size, 0, rfl, by omega, fun j u hu => ?_⟩⟩
  rw [(Blk.new w t _).cell]
  rw [← hu, Nat.zero_add]
  simp

/-- The ticks of a thing's events, each once. -/
def chgP (es : List Ev) (n : ByteArray) : List Int := chgL ((rowOf es n).map (·.tick))

set_option maxHeartbeats 2000000 in
set_option maxRecDepth 100000 in
theorem changes_any (cb : Nat) (F : Nat → Prop) (es : List Ev) (n : ByteArray) (w : World) (h : CatAt w cb F es) (hn : n.size ≤ 1000000) (hb : es.length ≤ 1000000) :
    Calls Tryd.prog 12 #[.pointer (some ⟨cb, 0, none⟩), .string n] w fun e w' => ∃ A c, e = .returned (.slice A (chgP es n).length c) ∧ RowIn w' w'.heap.size 1 A (chgP es n).length ((chgP es n).map (.int .i64)) ∧ Below w.heap.size w w' := by
  obtain ⟨mb, G, last, h⟩ := h
  obtain ⟨i0, hi0, hz0, hz1, hz2⟩ := info_parts int_info
  have hlk := h.map.look (string_keyed Tryd.underlying9) Tryd.underlying53 (zeroSl w) rfl (WideMaps.keyOf_string_mk Tryd.underlying9 (s := n) (by unfold maxLen; omega))
  rw [mapG_at] at hlk
  have c9 : w.cell? ⟨cb, 9, none⟩ = some (.map (some mb)) := h.blk.cell 9
  obtain ⟨A0, N, cap0, HGV, HN, HST⟩ : ∃ A0 N cap0, Hid ((G n).getD (.slice none 0 0) = .slice A0 N cap0) ∧ Hid ((rowOf es n).length = N) ∧ Hid (0 < N → ∃ g, A0 = some ⟨g, 0, none⟩ ∧ g < w.heap.size ∧ ∀ i x, (rowOf es n)[i]? = some x → StAt w g (i * 9) x) := by
    by_cases hr : rowOf es n = []
    · exact ⟨none, 0, 0, Lib.hid (by rw [h.none_ _ hr]; rfl), Lib.hid (by rw [hr]; rfl), Lib.hid (fun h => by omega)⟩
    · obtain ⟨g, cap, h1, h2, h3, h4, h5⟩ := h.some_ _ hr
      exact ⟨_, _, _, Lib.hid (by rw [h1]; rfl), Lib.hid rfl, Lib.hid (fun _ => ⟨g, rfl, h.lt _ h3, own_st h2⟩)⟩
  rw [HGV.out] at hlk
  have hNb : N ≤ 1000000 := by have := rowOf_le es n; rw [HN.out] at this; omega
  have HCH : Hid (chgP es n = chgL ((rowOf es n).map (·.tick))) := Lib.hid rfl
  generalize rowOf es n = r at *
  clear h HGV
  go_enter Tryd.func12, Tryd.ntmps12
  go_wp2_with fail
  clear hlk c9
  go_loopw [5, 15] (fun s i wr => ∃ (k : Nat), k ≤ N ∧ i = .int .i64 k ∧ Hid (wr.ownsRow w.heap.size 3 1 s k ((r.take k).map (fun x => .int .i64 x.tick))) ∧ Hid (Below w.heap.size w wr)) (fun _ i _ => N - (intOf i).toNat)
  case atStart => exact ⟨0, Nat.zero_le _, rfl, Lib.hid (by simpa using own_nil _ _ _ _), Lib.hid (Below.refl _ _)⟩
  case round =>
    obtain ⟨k, hk, rfl, hrow, hbw⟩ := hrel
    by_cases hlt : k < N
    · obtain ⟨x, hx⟩ : ∃ x, r[k]? = some x := ⟨r[k]'(by rw [HN.out]; exact hlt), List.getElem?_eq_getElem _⟩
      obtain ⟨g, rfl, hgl, hcl⟩ := HST.out (by omega)
      obtain ⟨b0, b1, b2, b3, b4, b5, b6, b7, b8⟩ : StAt wr g (k * 9) x := (hcl k x hx).keep (fun j => hbw.out.cell (p := ⟨g, j, none⟩) hgl)
      have HTK : Hid ((r.take (k + 1)).map (fun x => Value.int .i64 x.tick) = (r.take k).map (fun x => Value.int .i64 x.tick) ++ [.int .i64 x.tick]) := Lib.hid (by rw [List.take_add_one, hx]; simp)
      have hk8 : (k : Int) < (N : Int) := by omega
      have hk9 : (0 : Int) ≤ (k : Int) := by omega
      obtain ⟨A5, c5, hr⟩ := own_shape hrow.out
      rw [hr] at hrow ⊢
      have hwz := hbw.out.size
      clear hr hcl hx
      obtain ⟨w5, hw5⟩ : ∃ w5, wr.alloc (.cells #[.int .i64 x.tick, .bool x.isborn, .string x.item.name, .string x.item.maker, .string x.item.tags, .int .i64 x.item.stock, .int .i64 x.item.price, .int .i64 x.item.born, .bool x.item.listed] 57) = w5 := ⟨_, rfl⟩
      have HR5 : Hid (w5.ownsRow w.heap.size 3 1 (.slice A5 k c5) k ((r.take k).map (fun x => .int .i64 x.tick))) := Lib.hid (by rw [← hw5]; exact hrow.out.alloc _)
      have HB5 : Hid (Below w.heap.size w w5) := Lib.hid (by rw [← hw5]; exact hbw.out.alloc hwz _)
      have t0 : w5.cell? ⟨wr.heap.size, 0, none⟩ = some (.int .i64 x.tick) := by rw [← hw5]; exact (Blk.new _ _ _).cell 0
      go_wp2_with (first
        | (at_builtin; refine wpList_append_row _ rfl _ _ 27 rfl w.heap.size 3 i0 _ 1 8 Tryd.underlying27 hi0 hz0 hz1 hz2 rfl (by omega) (.slice A5 k c5) k _ rfl (HR5.out.alloc _) (w5.heap.size + 1) (some ⟨w5.heap.size, 0, none⟩) 1 1 [.int .i64 x.tick] rfl (one_int w5 x.tick _) (fun h => by cases h) (fun u hu => by simp at hu; subst hu; rfl) (by unfold maxLen; omega) (by omega) (by have := HB5.out.size; simp; omega) ?_; intro v7 w7 ho7 hg7 hv7))
      go_roundw
      case rel =>
        refine ⟨k + 1, by omega, by go_num, Lib.hid ?_, Lib.hid ((HB5.out.alloc HB5.out.size _).grown hg7 (by have := HB5.out.size; simp; omega) (fun j hj => (HR5.out.lt _ hj).1))⟩
        rw [HTK.out]
        exact ho7
      case measure => simp [intOf]; omega
    · obtain rfl : N = k := by omega
      obtain ⟨A5, c5, hr⟩ := own_shape hrow.out
      rw [hr] at hrow ⊢
      have hwz := hbw.out.size
      have HCM := Lib.hid (compact_any wr w.heap.size A5 (r.map (·.tick)) N c5 (by rw [List.length_map]; exact HN.out) (by
        have := hrow.out
        rw [← HN.out, List.take_length, HN.out] at this
        rw [List.map_map]
        exact this) hNb)
      clear hr
      go_wp2_with fail
      refine HCM.out.mono ?_
      rintro e w7 ⟨rfl, hrw, hb7⟩
      have HRW := Lib.hid hrw
      clear hrw HCM
      go_wp2_with fail
      go_ret
      rw [HCH.out]
      exact ⟨A5, c5, rfl, HRW.out, hbw.out.trans hb7⟩

end Go.Proofs.YtpnfnmpohacnoaaDoor
