/- Rank of the program. -/
import Derived.Test.YtiaklkfdgnhonaaDoorSort
import Derived.Carry
import Derived.Deep.Onto
namespace Go.Proofs.YtiaklkfdgnhonaaDoor
open Go.Shelf Go.RowKit Go.Lib Go.Sort Go.Maps
set_option linter.unusedVariables false

def okBool : Value → Bool
  | .bool _ => true
  | _ => false

/-- Choices with short words. -/
def Okc (l : List Ch) : Prop := ∀ x ∈ l, x.item.size ≤ 300 ∧ x.maker.size ≤ 300 ∧ x.tags.size ≤ 300

/-- M holds just the words of sn. -/
def SetIs (M : Lit → Option Value) (sn : List ByteArray) : Prop := ∀ b : ByteArray, M (.string b.data.toList) = if b ∈ sn then some (.bool true) else none
theorem SetIs.none : SetIs (fun _ => none) [] := fun b => by simp
theorem str_same (a b : ByteArray) : (Lit.string a.data.toList).sameKey (.string b.data.toList) = decide (a = b) := by
  by_cases h : a = b
  · subst h
    rw [WideAt.sameKey_self (by trivial)]
    simp
  · rw [sameKey_ne (fun e => h (by
      injection e with e
      cases a; cases b
      exact congrArg _ (Array.toList_inj.1 e)))]
    simp [h]
theorem SetIs.add {M : Lit → Option Value} {sn : List ByteArray} (h : SetIs M sn) (a : ByteArray) : SetIs (upd M (.string a.data.toList) (.bool true)) (a :: sn) := fun b => by
  unfold upd
  rw [str_same]
  by_cases e : b = a
  · simp [e]
  · simp only [e, decide_false, Bool.false_eq_true, if_false, List.mem_cons, false_or]
    exact h b
theorem SetIs.get {M : Lit → Option Value} {sn : List ByteArray} (h : SetIs M sn) (a : ByteArray) : (M (.string a.data.toList)).getD (.bool false) = .bool (decide (a ∈ sn)) := by
  rw [h]
  by_cases e : a ∈ sn <;> simp [e]

theorem zeroBool (w : World) : (zeroValue 4).run Tryd.prog w = .ok (.bool false) w := Tryd.zeroValue4 w

/-- A row of one choice, just made. -/
theorem one_row (w : World) (x : Ch) (t : TypeId) : RowIn (w.alloc (.cells #[.string x.item, .string x.maker, .string x.tags, .int .i64 x.score] t)) (w.heap.size + 1) 4 (some ⟨w.heap.size, 0, none⟩) 1 (chC x) := by
  refine ⟨rfl, Or.inr ⟨w.heap.size, 0, rfl, by omega, fun j u hu => ?_⟩⟩
  rw [(Blk.new w t _).cell]
  rw [← hu, Nat.zero_add]
  simp [chC]

set_option maxHeartbeats 4000000 in
set_option maxRecDepth 100000 in
theorem rank_any (w : World) (B : Nat) (A : Option Addr) (l : List Ch) (n c : Nat) (hn : l.length = n) (hl : ChsAt w B A l) (hB : B ≤ w.heap.size) (hnil : A = none → c = 0) (hb : n ≤ 1000) (hok : Okc l) :
    Calls Tryd.prog 14 #[.slice A n c] w fun e w' => ∃ v, e = .returned v ∧ w'.ownsRow w.heap.size 32 4 v (rankP l).length ((rankP l).flatMap chC) ∧ Below w.heap.size w w' := by
  obtain ⟨i0, hi0, hz0, hz1, hz2⟩ := info_parts ch_info
  have hmm := @run_makeMap Tryd.prog
  go_enter Tryd.func14, Tryd.ntmps14
  go_wp2_with fail
  refine (clone_any w B A l n c hn hl hB hnil (by omega)).mono ?_
  rintro e w1 ⟨v1, rfl, hown1, hb1⟩
  obtain ⟨A1, c1, rfl⟩ := own_shape hown1
  go_wp2_with fail
  refine (sort_any w1 w.heap.size A1 l n c1 hn hown1 (by omega) hb1.size).mono ?_
  rintro e w2 ⟨rfl, hs2, hb2⟩
  have hB2 : Below w.heap.size w w2 := hb1.trans hb2
  have hokS : Okc (sortC l) := fun x hx => hok x ((sortC_mem l x).1 hx)
  have hSn : (sortC l).length = n := by rw [sortC_len]; exact hn
  have hR : rankP l = firsts [] (sortC l) := rfl
  generalize sortC l = S at hs2 hokS hSn hR
  have HR := Lib.hid hR
  have z1 := hb1.size
  have z2 : w1.heap.size ≤ w2.heap.size := hb2.size
  have HS := Lib.hid hSn
  have HOK := Lib.hid hokS
  clear hl hown1 hb1 hb2 hok hn hSn hokS hnil hR
  have hm3 := MapIs.made w2 Tryd.prog 9 okBool
  have hk3 : Kept (fun i => i = w2.heap.size) (w2.alloc (.map #[] 0)) (w2.alloc (.map #[] 0)) := Kept.refl _ _
  have hs3 : ChsAt (w2.alloc (.map #[] 0)) w1.heap.size A1 S := RowIn.alloc hs2 z2 _
  have hB3 : Below w.heap.size w (w2.alloc (.map #[] 0)) := hB2.alloc (by omega) _
  have z3 : (w2.alloc (.map #[] 0)).heap.size = w2.heap.size + 1 := by simp
  obtain ⟨w3, hw3⟩ : ∃ w3, w2.alloc (.map #[] 0) = w3 := ⟨_, rfl⟩
  rw [hw3] at hm3 hk3 hs3 hB3 z3
  go_wp2_with fail
  (try rw [hw3])
  clear hw3 hs2
  go_loopw [5, 15] (fun r i wr => ∃ (k cnt : Nat) (M : Lit → Option Value) (sn : List ByteArray) (out : List Ch), k ≤ n ∧ i = .int .i64 k ∧ Hid (firsts [] S = out ++ firsts sn (S.drop k)) ∧ Hid (SetIs M sn) ∧ MapIs Tryd.prog 9 okBool wr w2.heap.size cnt M ∧ cnt ≤ k ∧ out.length ≤ k ∧ Hid (wr.ownsRow w3.heap.size 32 4 r out.length (out.flatMap chC)) ∧ Kept (fun q => q = w2.heap.size) w3 wr) (fun _ i _ => n - (intOf i).toNat)
  case atStart => exact ⟨0, 0, _, [], [], Nat.zero_le _, rfl, Lib.hid rfl, Lib.hid SetIs.none, hm3, Nat.le_refl _, Nat.le_refl _, Lib.hid (own_nil _ _ _ _), hk3⟩
  case round =>
    obtain ⟨k, cnt, M, sn, out, hk, rfl, hout, hM, hmap, hcnt, hol, hrow, hkw⟩ := hrel
    have hBw : Below w.heap.size w wr := hB3.trans (hkw.toBelow (fun i hi => by omega) (by omega))
    have z4 := hkw.size
    by_cases hlt : k < n
    · obtain ⟨x, hx⟩ : ∃ x, S[k]? = some x := ⟨S[k]'(by rw [HS.out]; exact hlt), List.getElem?_eq_getElem _⟩
      have hxl := (HOK.out x (List.mem_of_getElem? hx)).1
      have hsz : x.item.size ≤ maxLen := by unfold maxLen; omega
      have hSr : ChsAt wr w1.heap.size A1 S := RowIn.kept hs3 hkw (by omega) (fun i hi e => by omega)
      obtain ⟨g, o, rfl, hgB, hc⟩ := hSr.at (by rw [HS.out]; omega)
      obtain ⟨e0, e1, e2, e3⟩ := hc k x hx
      have hdr : S.drop k = x :: S.drop (k + 1) := by
        obtain ⟨hlt', hx'⟩ := List.getElem?_eq_some_iff.1 hx
        rw [List.drop_eq_getElem_cons hlt', hx']
      have HD := Lib.hid hdr
      have HG := Lib.hid (hM.out.get x.item)
      have hk8 : (k : Int) < (n : Int) := by omega
      have hk9 : (0 : Int) ≤ (k : Int) := by omega
      obtain ⟨xi, xm, xt, xs⟩ := x
      dsimp only at e0 e1 e2 e3 hsz
      clear hdr hx hc hSr
      have HX1 : Hid (∀ u ∈ chC ⟨xi, xm, xt, xs⟩, u.oneCell' = true) := Lib.hid (fun u hu => chC_one [⟨xi, xm, xt, xs⟩] u (by simpa using hu))
      have hmap5 := hmap.alloc (.cells #[.string xi, .string xm, .string xt, .int .i64 xs] 32)
      by_cases hin : xi ∈ sn
      · have hbn : (!decide (xi ∈ sn)) = false := by simp [hin]
        go_wp2_with (first
          | (at_lookup; refine wpList_lookM _ rfl _ _ 43 rfl 9 4 (string_keyed Tryd.underlying9) Tryd.underlying43 okBool _ (zeroBool _) rfl w2.heap.size cnt _ rfl hmap5 _ _ rfl (WideMaps.keyOf_string_mk Tryd.underlying9 hsz) _ HG.out ?_)
          | fail)
        go_roundw
        case rel =>
          refine ⟨k + 1, cnt, M, sn, out, by omega, by go_num, Lib.hid ?_, hM, hmap5, by omega, by omega, Lib.hid (hrow.out.alloc _), hkw.alloc _⟩
          rw [hout.out, HD.out]
          simp only [firsts, if_pos hin]
        case measure => simp [intOf]; omega
      · have hbn : (!decide (xi ∈ sn)) = true := by simp [hin]
        go_wp2_with (first
          | (at_lookup; refine wpList_lookM _ rfl _ _ 43 rfl 9 4 (string_keyed Tryd.underlying9) Tryd.underlying43 okBool _ (zeroBool _) rfl w2.heap.size cnt _ rfl hmap5 _ _ rfl (WideMaps.keyOf_string_mk Tryd.underlying9 hsz) _ HG.out ?_)
          | (at_mapUpdate; refine wpList_storeM _ rfl _ _ _ 43 rfl 9 4 (string_keyed Tryd.underlying9) Tryd.underlying43 okBool w2.heap.size cnt _ rfl hmap5 (by unfold maxLen; omega) _ (.bool true) _ rfl rfl (WideMaps.keyOf_string_mk Tryd.underlying9 hsz) rfl ?_; intro w6 hm6 hg6 hs6; have Z6 : Hid (w6.heap.size = wr.heap.size + 1) := Lib.hid (hs6.trans (by simp)); clear hs6; go_loud (have bx : Blk w6 wr.heap.size 32 #[.string xi, .string xm, .string xt, .int .i64 xs] := (Blk.new _ _ _).grown hg6 (by simp; omega); have d0 : w6.cell? ⟨wr.heap.size, 0, none⟩ = some (.string xi) := bx.cell 0; have d1 : w6.cell? ⟨wr.heap.size, 1, none⟩ = some (.string xm) := bx.cell 1; have d2 : w6.cell? ⟨wr.heap.size, 2, none⟩ = some (.string xt) := bx.cell 2; have d3 : w6.cell? ⟨wr.heap.size, 3, none⟩ = some (.int .i64 xs) := bx.cell 3; have HO6 : Hid (w6.ownsRow w3.heap.size 32 4 u5 out.length (out.flatMap chC)) := Lib.hid ((hrow.out.alloc _).kept hg6 (Or.inr (fun e => by have := (hrow.out.lt _ e).1; omega)))); clear bx)
          | (at_builtin; go_loud (refine wpList_append_row _ rfl _ _ 22 rfl w3.heap.size 32 i0 _ 4 56 Tryd.underlying22 hi0 hz0 hz1 hz2 rfl (by omega) u5 out.length (out.flatMap chC) rfl (HO6.out.alloc _) (w6.heap.size + 1) (some ⟨w6.heap.size, 0, none⟩) 1 1 (chC ⟨xi, xm, xt, xs⟩) rfl (one_row w6 ⟨xi, xm, xt, xs⟩ _) (fun h => by cases h) (HX1.out) (by unfold maxLen; omega) (by omega) (by have := Z6.out; simp; omega) ?_); intro v7 w7 ho7 hg7 hv7)
          | fail)
        go_roundw
        case rel =>
          have hk6 : Kept (fun q => q = w2.heap.size) w3 w6 := (hkw.alloc _).grown hg6 (fun j hj => by cases hj; exact Or.inl rfl)
          have hm7 := (hm6.alloc (.cells #[.string xi, .string xm, .string xt, .int .i64 xs] 32)).grown hg7 (fun e => by have := (hrow.out.lt _ e.symm).1; omega)
          refine ⟨k + 1, cnt + 1, _, xi :: sn, out ++ [⟨xi, xm, xt, xs⟩], by omega, by go_num, Lib.hid ?_, Lib.hid (hM.out.add xi), hm7, by omega, by simp; omega, ?_, ?_⟩
          · rw [hout.out, HD.out, List.append_assoc]
            simp only [firsts, if_neg hin, List.singleton_append]
          · refine Lib.hid ?_
            rw [List.flatMap_append, List.length_append]
            rw [show [(⟨xi, xm, xt, xs⟩ : Ch)].flatMap chC = chC ⟨xi, xm, xt, xs⟩ from by simp]
            exact ho7
          · exact (hk6.alloc _).grown hg7 (fun j hj => Or.inr (by have := (hrow.out.lt _ hj).1; omega))
        case measure => simp [intOf]; omega
    · go_wp2_with fail
      go_ret
      refine ⟨_, rfl, ?_, hBw⟩
      have hz := hout.out
      rw [List.drop_of_length_le (by rw [HS.out]; omega)] at hz
      have : firsts sn [] = [] := rfl
      rw [this, List.append_nil] at hz
      rw [HR.out, hz]
      exact hrow.out.mono (by omega)

end Go.Proofs.YtiaklkfdgnhonaaDoor
