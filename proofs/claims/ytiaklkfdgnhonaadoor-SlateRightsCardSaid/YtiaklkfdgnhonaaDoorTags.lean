/- Tags and has of the document. -/
import Derived.Test.YtiaklkfdgnhonaaDoorMake
namespace Go.Proofs.YtiaklkfdgnhonaaDoor
open Go.Shelf Go.RowKit Go.Lib Go.Sort Go.Maps
set_option linter.unusedVariables false

theorem str_info : (Tryd.prog.info? 9).map (fun i => (i.zero, i.size, i.bytes)) = some (some (.string ⟨#[]⟩), 1, 16) := by kernel_rfl

/-- A row of one string, just made. -/
theorem one_str (w : World) (s : ByteArray) (t : TypeId) : RowIn (w.alloc (.cells #[.string s] t)) (w.heap.size + 1) 1 (some ⟨w.heap.size, 0, none⟩) 1 [.string s] := by
  refine ⟨rfl, Or.inr ⟨w.heap.size, 0, rfl, by omega, fun j u hu => ?_⟩⟩
  rw [(Blk.new w t _).cell]
  rw [← hu, Nat.zero_add]
  simp

theorem own_str_at {w : World} {base : Nat} {A : Option Addr} {n c : Nat} {e : TypeId} {l : List ByteArray} (h : w.ownsRow base e 1 (.slice A n c) n (l.map .string)) (hn : 0 < n) : ∃ g, A = some ⟨g, 0, none⟩ ∧ base ≤ g ∧ g < w.heap.size ∧ ∀ i x, l[i]? = some x → w.cell? ⟨g, i, none⟩ = some (.string x) := by
  obtain ⟨g, cap, hv, hg, hlt⟩ := h.form hn
  injection hv with hA
  subst hA
  refine ⟨g, rfl, hg, hlt, fun i x hx => ?_⟩
  have := h.cells (g := g) rfl i (.string x) (by simp [hx])
  rwa [at_add, Nat.zero_add] at this

theorem own_new (w : World) (e : TypeId) (size : Nat) (base : Nat) (hb : base ≤ w.heap.size) : (w.alloc (.cells #[] e)).ownsRow base e size (.slice (some ⟨w.heap.size, 0, none⟩) 0 0) 0 [] := (own_empty w e size).mono hb

/-- How far the scan is. -/
def ScanAt (s : ByteArray) (k a : Nat) (out : List ByteArray) : Prop :=
  (k ≤ s.size ∧ a ≤ k ∧ (∀ j, a ≤ j → j < k → s.data.toList[j]? ≠ some 44) ∧ tagsP s = (parts (s.extract a s.size)).foldl addT out) ∨ (k = s.size + 1 ∧ tagsP s = out)
theorem ScanAt.zero (s : ByteArray) : ScanAt s 0 0 [] := Or.inl ⟨Nat.zero_le _, Nat.le_refl _, fun j h1 h2 => by omega, by rw [cut_zero]; rfl⟩
theorem ScanAt.skip {s : ByteArray} {k a : Nat} {out : List ByteArray} (h : ScanAt s k a out) (hk : k < s.size) (hc : s.data.toList[k]? ≠ some 44) : ScanAt s (k + 1) a out := by
  rcases h with ⟨h1, h2, h3, h4⟩ | ⟨h1, _⟩
  · refine Or.inl ⟨by omega, by omega, fun j hj1 hj2 => ?_, h4⟩
    by_cases e : j = k
    · subst e; exact hc
    · exact h3 j hj1 (by omega)
  · omega
theorem ScanAt.comma {s : ByteArray} {k a : Nat} {out : List ByteArray} (h : ScanAt s k a out) (hk : k ≤ s.size) (hc : s.data.toList[k]? = some 44) : ScanAt s (k + 1) (k + 1) (addT out (s.extract a k)) := by
  rcases h with ⟨h1, h2, h3, h4⟩ | ⟨h1, _⟩
  · have hlt : k < s.size := by have := (List.getElem?_eq_some_iff.1 hc).1; simpa using this
    refine Or.inl ⟨by omega, Nat.le_refl _, fun j hj1 hj2 => by omega, ?_⟩
    rw [h4, parts_comma s a k h2 hc h3, List.foldl_cons]
  · omega
theorem ScanAt.last {s : ByteArray} {a : Nat} {out : List ByteArray} (h : ScanAt s s.size a out) : ScanAt s (s.size + 1) (s.size + 1) (addT out (s.extract a s.size)) := by
  rcases h with ⟨h1, h2, h3, h4⟩ | ⟨h1, _⟩
  · refine Or.inr ⟨rfl, ?_⟩
    rw [h4, parts_end s a (fun j hj e => h3 j hj (by have := (List.getElem?_eq_some_iff.1 e).1; simpa using this) e)]
    rfl
  · omega
theorem ScanAt.le {s : ByteArray} {k a : Nat} {out : List ByteArray} (h : ScanAt s k a out) (hk : k ≤ s.size) : a ≤ k := by
  rcases h with ⟨_, h2, _⟩ | ⟨h1, _⟩
  · exact h2
  · omega
theorem ScanAt.done {s : ByteArray} {k a : Nat} {out : List ByteArray} (h : ScanAt s k a out) (hk : ¬ k ≤ s.size) : tagsP s = out := by
  rcases h with ⟨h1, _⟩ | ⟨_, h2⟩
  · omega
  · exact h2

theorem byte_get (s : ByteArray) (k : Nat) (h : k < s.size) : s.data.toList[k]? = some s[k] := by
  rw [List.getElem?_eq_getElem (by simpa using h)]; rfl
theorem byte_ne {s : ByteArray} {k : Nat} (h : k < s.size) (hc : s.data.toList[k]? ≠ some 44) : ((s[k].toNat : Int) != 44) = true := by
  rw [byte_get s k h] at hc
  rw [bne_iff_ne]
  intro e
  apply hc
  have : s[k].toNat = 44 := by omega
  rw [show s[k] = 44 from UInt8.toNat_inj.1 this]
theorem byte_eq {s : ByteArray} {k : Nat} (h : k < s.size) (hc : s.data.toList[k]? = some 44) : ((s[k].toNat : Int) != 44) = false := by
  rw [byte_get s k h] at hc
  injection hc with hc
  rw [hc]; rfl

set_option maxHeartbeats 4000000 in
set_option maxRecDepth 100000 in
theorem tags_any (s : ByteArray) (w : World) (hs : s.size ≤ 300) :
    Calls Tryd.prog 17 #[.string s] w fun e w' => ∃ v, e = .returned v ∧ w'.ownsRow w.heap.size 9 1 v (tagsP s).length ((tagsP s).map .string) ∧ Below w.heap.size w w' := by
  obtain ⟨i0, hi0, hz0, hz1, hz2⟩ := info_parts str_info
  obtain ⟨w1, hw1⟩ : ∃ w1, w.alloc (.cells #[] 9) = w1 := ⟨_, rfl⟩
  have HO1 : Hid (w1.ownsRow w.heap.size 9 1 (.slice (some ⟨w.heap.size, 0, none⟩) 0 0) 0 []) := Lib.hid (by rw [← hw1]; exact own_empty _ _ _)
  have hB1 : Below w.heap.size w w1 := by rw [← hw1]; exact (Below.refl _ _).alloc (Nat.le_refl _) _
  go_enter Tryd.func17, Tryd.ntmps17
  go_wp2_with fail
  clear hw1
  go_loopw [3, 4, 5] (fun v a i wr => ∃ (k f : Nat) (out : List ByteArray), k ≤ s.size + 1 ∧ i = .int .i64 k ∧ f ≤ s.size + 1 ∧ a = .int .i64 f ∧ Hid (ScanAt s k f out) ∧ out.length ≤ k ∧ Hid (wr.ownsRow w.heap.size 9 1 v out.length (out.map .string)) ∧ Hid (Below w.heap.size w wr)) (fun _ _ i _ => s.size + 1 - (intOf i).toNat)
  case atStart => exact ⟨0, 0, [], Nat.zero_le _, rfl, Nat.zero_le _, rfl, Lib.hid (ScanAt.zero s), Nat.le_refl _, HO1, Lib.hid hB1⟩
  case round =>
    obtain ⟨k, f, out, hk, rfl, hf, rfl, hsc, hol, hrow, hbw⟩ := hrel
    by_cases hle : k ≤ s.size
    · by_cases hskip : k < s.size ∧ s.data.toList[k]? ≠ some 44
      · obtain ⟨hlt, hc⟩ := hskip
        have hk8 : (k : Int) < (s.size : Int) := by omega
        have hk9 : (0 : Int) ≤ (k : Int) := by omega
        have hk7 : (k : Int) ≤ (s.size : Int) := by omega
        have HSC := Lib.hid (hsc.out.skip hlt hc)
        have hbn := byte_ne hlt hc
        clear hc
        go_wp2_with fail
        go_roundw
        case rel => exact ⟨k + 1, f, out, by omega, by go_num, hf, rfl, HSC, by omega, hrow, hbw⟩
        case measure => simp [intOf]; omega
      · have hfk := hsc.out.le hle
        have HSC : Hid (ScanAt s (k + 1) (k + 1) (addT out (s.extract f k))) := Lib.hid (by
          by_cases hlt : k < s.size
          · exact hsc.out.comma hle (by simpa [hlt] using hskip)
          · obtain rfl : k = s.size := by omega
            exact hsc.out.last)
        have hbn : k = s.size ∨ ∃ h : k < s.size, ((s[k].toNat : Int) != 44) = false := by
          by_cases hlt : k < s.size
          · exact Or.inr ⟨hlt, byte_eq hlt (by simpa [hlt] using hskip)⟩
          · exact Or.inl (by omega)
        have hk9 : (0 : Int) ≤ (k : Int) := by omega
        have hk7 : (k : Int) ≤ (s.size : Int) := by omega
        have hf9 : (0 : Int) ≤ (f : Int) := by omega
        have hf7 : (f : Int) ≤ (k : Int) := by omega
        obtain ⟨A3, c3, hr⟩ := own_shape hrow.out
        rw [hr] at hrow ⊢
        clear hr hskip hsc
        obtain ⟨t, ht⟩ : ∃ t, s.extract f k = t := ⟨_, rfl⟩
        rw [ht] at HSC
        have HT := Lib.hid ht
        rcases hbn with hbn | ⟨hlt, hbn⟩
        · have hk8 : ¬ (k : Int) < (s.size : Int) := by omega
          clear hbn
          go_wp2_with fail
          go_loop [7, 8] (fun b i => ∃ (j : Nat) (bb : Bool), j ≤ out.length ∧ i = .int .i64 j ∧ b = .bool bb ∧ Hid (bb = true ↔ t ≠ ⟨#[]⟩ ∧ ∀ j', j' < j → out[j']? ≠ some t)) (fun _ i => out.length - (intOf i).toNat)
          case atStart => exact ⟨0, _, Nat.zero_le _, rfl, rfl, Lib.hid (by rw [emp_iff]; simp)⟩
          case round =>
            obtain ⟨j, bb, hj, rfl, rfl, hbb⟩ := hrel
            by_cases hjl : j < out.length
            · obtain ⟨u, hu⟩ : ∃ u, out[j]? = some u := ⟨out[j]'hjl, List.getElem?_eq_getElem _⟩
              obtain ⟨g, rfl, hg1, hg2, hcl⟩ := own_str_at hrow.out (by omega)
              have e0 := hcl j u hu
              have HU := Lib.hid hu
              have hj8 : (j : Int) < (out.length : Int) := by omega
              have hj9 : (0 : Int) ≤ (j : Int) := by omega
              clear hcl hu
              cases bb
              · go_wp2_with fail
                go_round
                case rel =>
                  refine ⟨j + 1, false, by omega, by go_num, rfl, Lib.hid ⟨fun h => (by cases h), fun h => ?_⟩⟩
                  have := hbb.out.2 ⟨h.1, fun j' hj' => h.2 j' (by omega)⟩
                  cases this
                case measure => simp [intOf]; omega
              · have hne := bne_list u t
                obtain ⟨q, hq⟩ : ∃ q, (!(u.toList == t.toList)) = q := ⟨_, rfl⟩
                rw [hq] at hne
                have HNE := Lib.hid hne
                clear hne
                go_wp2_with fail
                go_round
                case rel =>
                  refine ⟨j + 1, q, by omega, by go_num, rfl, Lib.hid ?_⟩
                  have hb := hbb.out.1 rfl
                  rw [HNE.out]
                  simp only [Bool.not_eq_true', decide_eq_false_iff_not]
                  constructor
                  · intro h
                    refine ⟨hb.1, fun j' hj' e => ?_⟩
                    by_cases ej : j' = j
                    · subst ej
                      rw [HU.out] at e
                      exact h (Option.some.inj e)
                    · exact hb.2 j' (by omega) e
                  · rintro ⟨_, h2⟩ e
                    exact h2 j (by omega) (by rw [HU.out, e])
                case measure => simp [intOf]; omega
            · cases bb
              · have HAD : Hid (addT out t = out) := Lib.hid (by
                  unfold addT
                  rw [if_pos]
                  have hb := hbb.out
                  by_cases h1 : t = ⟨#[]⟩
                  · exact Or.inl h1
                  · refine Or.inr (Classical.byContradiction fun h2 => ?_)
                    have := hb.2 ⟨h1, fun j' _ e => h2 (List.mem_of_getElem? e)⟩
                    cases this)
                go_wp2_with fail
                go_roundw
                case rel => exact ⟨k + 1, k + 1, out, by omega, by go_num, by omega, by go_num, Lib.hid (by have := HSC.out; rwa [HAD.out] at this), by omega, hrow, hbw⟩
                case measure => simp [intOf]; omega
              · have HAD : Hid (addT out t = out ++ [t]) := Lib.hid (by
                  unfold addT
                  rw [if_neg]
                  have hb := hbb.out.1 rfl
                  rintro (h1 | h1)
                  · exact hb.1 h1
                  · obtain ⟨j', hj'⟩ := List.mem_iff_getElem?.1 h1
                    exact hb.2 j' (by have := (List.getElem?_eq_some_iff.1 hj').1; omega) hj')
                have zb := hbw.out.size
                go_wp2_with (first
                  | (at_builtin; go_loud (refine wpList_append_row _ rfl _ _ 33 rfl w.heap.size 9 i0 _ 1 16 Tryd.underlying33 hi0 hz0 hz1 hz2 rfl (by omega) (.slice A3 out.length c3) out.length (out.map .string) rfl (hrow.out.alloc _) (wr.heap.size + 1) (some ⟨wr.heap.size, 0, none⟩) 1 1 [.string t] rfl (one_str wr t _) (fun h => by cases h) (fun u hu => by simp at hu; rw [hu]; rfl) (by unfold maxLen; omega) (by omega) (by simp; omega) ?_); intro v7 w7 ho7 hg7 hv7)
                  | fail)
                go_roundw
                case rel =>
                  refine ⟨k + 1, k + 1, out ++ [t], by omega, by go_num, by omega, by go_num, Lib.hid (by have := HSC.out; rwa [HAD.out] at this), by simp; omega, Lib.hid ?_, Lib.hid ?_⟩
                  · rw [List.map_append, List.length_append]
                    exact ho7
                  · have k4 : Kept (fun i => w.heap.size ≤ i) w wr := ⟨hbw.out.os, hbw.out.tape, hbw.out.output, hbw.out.size, fun i hi _ => hbw.out.block i hi⟩
                    have k7 := (k4.alloc (.cells #[.string t] 9)).grown hg7 (fun j hj => Or.inr (by have := (hrow.out.lt _ hj).1; omega))
                    exact k7.toBelow (fun i hi => hi) (Nat.le_refl _)
                case measure => simp [intOf]; omega
        · go_wp2_with fail
          go_loop [7, 8] (fun b i => ∃ (j : Nat) (bb : Bool), j ≤ out.length ∧ i = .int .i64 j ∧ b = .bool bb ∧ Hid (bb = true ↔ t ≠ ⟨#[]⟩ ∧ ∀ j', j' < j → out[j']? ≠ some t)) (fun _ i => out.length - (intOf i).toNat)
          case atStart => exact ⟨0, _, Nat.zero_le _, rfl, rfl, Lib.hid (by rw [emp_iff]; simp)⟩
          case round =>
            obtain ⟨j, bb, hj, rfl, rfl, hbb⟩ := hrel
            by_cases hjl : j < out.length
            · obtain ⟨u, hu⟩ : ∃ u, out[j]? = some u := ⟨out[j]'hjl, List.getElem?_eq_getElem _⟩
              obtain ⟨g, rfl, hg1, hg2, hcl⟩ := own_str_at hrow.out (by omega)
              have e0 := hcl j u hu
              have HU := Lib.hid hu
              have hj8 : (j : Int) < (out.length : Int) := by omega
              have hj9 : (0 : Int) ≤ (j : Int) := by omega
              clear hcl hu
              cases bb
              · go_wp2_with fail
                go_round
                case rel =>
                  refine ⟨j + 1, false, by omega, by go_num, rfl, Lib.hid ⟨fun h => (by cases h), fun h => ?_⟩⟩
                  have := hbb.out.2 ⟨h.1, fun j' hj' => h.2 j' (by omega)⟩
                  cases this
                case measure => simp [intOf]; omega
              · have hne := bne_list u t
                obtain ⟨q, hq⟩ : ∃ q, (!(u.toList == t.toList)) = q := ⟨_, rfl⟩
                rw [hq] at hne
                have HNE := Lib.hid hne
                clear hne
                go_wp2_with fail
                go_round
                case rel =>
                  refine ⟨j + 1, q, by omega, by go_num, rfl, Lib.hid ?_⟩
                  have hb := hbb.out.1 rfl
                  rw [HNE.out]
                  simp only [Bool.not_eq_true', decide_eq_false_iff_not]
                  constructor
                  · intro h
                    refine ⟨hb.1, fun j' hj' e => ?_⟩
                    by_cases ej : j' = j
                    · subst ej
                      rw [HU.out] at e
                      exact h (Option.some.inj e)
                    · exact hb.2 j' (by omega) e
                  · rintro ⟨_, h2⟩ e
                    exact h2 j (by omega) (by rw [HU.out, e])
                case measure => simp [intOf]; omega
            · cases bb
              · have HAD : Hid (addT out t = out) := Lib.hid (by
                  unfold addT
                  rw [if_pos]
                  have hb := hbb.out
                  by_cases h1 : t = ⟨#[]⟩
                  · exact Or.inl h1
                  · refine Or.inr (Classical.byContradiction fun h2 => ?_)
                    have := hb.2 ⟨h1, fun j' _ e => h2 (List.mem_of_getElem? e)⟩
                    cases this)
                go_wp2_with fail
                go_roundw
                case rel => exact ⟨k + 1, k + 1, out, by omega, by go_num, by omega, by go_num, Lib.hid (by have := HSC.out; rwa [HAD.out] at this), by omega, hrow, hbw⟩
                case measure => simp [intOf]; omega
              · have HAD : Hid (addT out t = out ++ [t]) := Lib.hid (by
                  unfold addT
                  rw [if_neg]
                  have hb := hbb.out.1 rfl
                  rintro (h1 | h1)
                  · exact hb.1 h1
                  · obtain ⟨j', hj'⟩ := List.mem_iff_getElem?.1 h1
                    exact hb.2 j' (by have := (List.getElem?_eq_some_iff.1 hj').1; omega) hj')
                have zb := hbw.out.size
                go_wp2_with (first
                  | (at_builtin; go_loud (refine wpList_append_row _ rfl _ _ 33 rfl w.heap.size 9 i0 _ 1 16 Tryd.underlying33 hi0 hz0 hz1 hz2 rfl (by omega) (.slice A3 out.length c3) out.length (out.map .string) rfl (hrow.out.alloc _) (wr.heap.size + 1) (some ⟨wr.heap.size, 0, none⟩) 1 1 [.string t] rfl (one_str wr t _) (fun h => by cases h) (fun u hu => by simp at hu; rw [hu]; rfl) (by unfold maxLen; omega) (by omega) (by simp; omega) ?_); intro v7 w7 ho7 hg7 hv7)
                  | fail)
                go_roundw
                case rel =>
                  refine ⟨k + 1, k + 1, out ++ [t], by omega, by go_num, by omega, by go_num, Lib.hid (by have := HSC.out; rwa [HAD.out] at this), by simp; omega, Lib.hid ?_, Lib.hid ?_⟩
                  · rw [List.map_append, List.length_append]
                    exact ho7
                  · have k4 : Kept (fun i => w.heap.size ≤ i) w wr := ⟨hbw.out.os, hbw.out.tape, hbw.out.output, hbw.out.size, fun i hi _ => hbw.out.block i hi⟩
                    have k7 := (k4.alloc (.cells #[.string t] 9)).grown hg7 (fun j hj => Or.inr (by have := (hrow.out.lt _ hj).1; omega))
                    exact k7.toBelow (fun i hi => hi) (Nat.le_refl _)
                case measure => simp [intOf]; omega
    · go_wp2_with fail
      go_ret
      refine ⟨_, rfl, ?_, hbw.out⟩
      rw [hsc.out.done hle]
      exact hrow.out

end Go.Proofs.YtiaklkfdgnhonaaDoor
