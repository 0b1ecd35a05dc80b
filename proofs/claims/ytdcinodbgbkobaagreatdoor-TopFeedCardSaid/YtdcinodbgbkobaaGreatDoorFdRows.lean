/- feed.rows: a list's rows by their names. -/
import Derived.Test.YtdcinodbgbkobaaGreatDoorFdMay
namespace Go.Proofs.YtdcinodbgbkobaaGreatDoor
open Go.Shelf Go.RowKit Go.Maps
set_option linter.unusedVariables false

def okIt : Value → Bool
  | .agg cs => match cs.toList with
    | [.string _, .string _, .string _, .int .i64 _, .int .i64 _, .int .i64 _, .bool _] => true
    | _ => false
  | _ => false
theorem okIt_mk (x : It) : okIt (itA x) = true := rfl
theorem okIt_inv {v : Value} (h : okIt v = true) : ∃ x : It, v = itA x := by
  unfold okIt at h
  split at h
  · rename_i cs
    split at h
    · rename_i a b c d e f g hl
      refine ⟨⟨a, b, c, d, e, f, g⟩, ?_⟩
      unfold itA
      rw [← hl]
    · cases h
  · cases h
theorem zeroIt (w : World) : (zeroValue 47).run Tryz.prog w = .ok (itA it0) w := by kernel_rfl
theorem zeroIt_ok : okIt (itA it0) = true := rfl
/-- A thing of a list, by its name. -/
def findI (l : List It) (n : ByteArray) : Option It := l.find? fun x => decide (x.name = n)
def rowsG (l : List It) : ByteArray → Option Value := fun n => (findI l n).map itA
theorem findI_snoc (l : List It) (x : It) (n : ByteArray) : findI (l ++ [x]) n = (findI l n).or (if x.name = n then some x else none) := by
  unfold findI
  rw [List.find?_append]
  by_cases h : x.name = n <;> simp [h]
theorem findI_none {l : List It} {n : ByteArray} : findI l n = none ↔ ∀ x ∈ l, x.name ≠ n := by
  unfold findI
  rw [List.find?_eq_none]
  simp
theorem rowsG_upd {l : List It} {x : It} (h : findI l x.name = none) : ∀ n, updG (rowsG l) x.name (itA x) n = rowsG (l ++ [x]) n := by
  intro n
  unfold updG rowsG
  rw [findI_snoc]
  by_cases e : n = x.name
  · subst e; rw [if_pos rfl, h]; simp
  · rw [if_neg e, if_neg (fun h => e h.symm)]; simp
def okI (l : List It) : Bool := okL (l.map roOf)
theorem okI_iff (l : List It) : okI l = true ↔ (∀ x ∈ l, mayR (roOf x) = true) ∧ (l.map (·.name)).Nodup ∧ l.length ≤ 4096 := by
  unfold okI
  rw [okL_iff, List.map_map, List.length_map]
  simp only [List.mem_map, forall_exists_index, and_imp, forall_apply_eq_imp_iff₂]
  rfl
def ItSh (x : It) : Prop := x.name.size ≤ 1000000 ∧ x.maker.size ≤ 1000000 ∧ x.tags.size ≤ 1000000
theorem itF_len (x : It) : (itC x).length = 7 := rfl
theorem it_at {w : World} {B : Nat} {A : Option Addr} {l : List It} {n : Nat} (h : RowIn w B 7 A n (l.flatMap itC)) (hn : 0 < n) : ∃ g o, A = some ⟨g, o, none⟩ ∧ g < B ∧ ∀ (k : Nat) x, l[k]? = some x → w.cell? ⟨g, o + k * 7, none⟩ = some (.string x.name) ∧ w.cell? ⟨g, o + k * 7 + 1, none⟩ = some (.string x.maker) ∧ w.cell? ⟨g, o + k * 7 + 2, none⟩ = some (.string x.tags) ∧ w.cell? ⟨g, o + k * 7 + 3, none⟩ = some (.int .i64 x.stock) ∧ w.cell? ⟨g, o + k * 7 + 4, none⟩ = some (.int .i64 x.price) ∧ w.cell? ⟨g, o + k * 7 + 5, none⟩ = some (.int .i64 x.born) ∧ w.cell? ⟨g, o + k * 7 + 6, none⟩ = some (.bool x.listed) := by
  obtain ⟨g, o, h1, h2, h3⟩ := h.at hn
  have q := fun (k : Nat) (x : It) (hx : l[k]? = some x) (j : Nat) (hj : j < 7) (u : Value) (hu : (itC x)[j]? = some u) => h3 (k * 7 + j) u ((flat_get itC 7 itF_len _ k j x hx hj).trans hu)
  refine ⟨g, o, h1, h2, fun k x hx => ⟨?_, ?_, ?_, ?_, ?_, ?_, ?_⟩⟩
  · exact q k x hx 0 (by omega) _ rfl
  · rw [Nat.add_assoc]; exact q k x hx 1 (by omega) _ rfl
  · rw [Nat.add_assoc]; exact q k x hx 2 (by omega) _ rfl
  · rw [Nat.add_assoc]; exact q k x hx 3 (by omega) _ rfl
  · rw [Nat.add_assoc]; exact q k x hx 4 (by omega) _ rfl
  · rw [Nat.add_assoc]; exact q k x hx 5 (by omega) _ rfl
  · rw [Nat.add_assoc]; exact q k x hx 6 (by omega) _ rfl
/-- What rows hands back. -/
def RowsPost (W : World) (B n : Nat) (l : List It) (v : Option Nat) : Prop := okI l = true → ∃ mb, v = some mb ∧ B ≤ mb ∧ MapIs Tryz.prog 9 okIt W mb n (mapG (rowsG l))

set_option maxHeartbeats 4000000 in
set_option maxRecDepth 100000 in
theorem rows_any (w : World) (B : Nat) (A : Option Addr) (l : List It) (n c : Nat) (hn : l.length = n) (hl : RowIn w B 7 A n (l.flatMap itC)) (hB : B ≤ w.heap.size) (hb : n ≤ 1000) (hsz : ∀ x ∈ l, ItSh x) (hg : GlobAt w) :
    Calls Tryz.prog 22 #[.slice A n c] w fun e w' => ∃ v : Option Nat, e = .returned (.tuple #[.map v, .bool (okI l)]) ∧ RowsPost w' w.heap.size n l v ∧ Below w.heap.size w w' := by
  have HN := Lib.hid hn
  have HL := Lib.hid hl
  have HSZ := Lib.hid hsz
  have HG := Lib.hid hg
  have hmm := @run_makeMap Tryz.prog
  obtain ⟨w1, hw1⟩ : ∃ w1, w.alloc (.map #[] 0) = w1 := ⟨_, rfl⟩
  have HM1 : Hid (MapIs Tryz.prog 9 okIt w1 w.heap.size 0 (mapG (rowsG []))) := Lib.hid (by rw [← hw1]; exact (MapIs.made _ _ _ _).congr (fun kl => by cases kl <;> rfl))
  have HB1 : Hid (Below w.heap.size w w1) := Lib.hid (by rw [← hw1]; exact (Below.refl _ _).alloc (Nat.le_refl _) _)
  have hz1 : w.heap.size < w1.heap.size := by rw [← hw1]; simp
  clear hn hl hsz hg
  go_enter Tryz.func22, Tryz.ntmps22
  go_wp2_with fail
  clear hw1 hmm
  go_loopw [12] (fun i wr => ∃ k : Nat, k ≤ n ∧ i = .int .i64 k ∧ Hid ((∀ x ∈ l.take k, mayR (roOf x) = true) ∧ ((l.take k).map (·.name)).Nodup) ∧ Hid (MapIs Tryz.prog 9 okIt wr w.heap.size k (mapG (rowsG (l.take k)))) ∧ Hid (Below w.heap.size w wr)) (fun i _ => n - (intOf i).toNat)
  case atStart => exact ⟨0, Nat.zero_le _, rfl, Lib.hid ⟨fun x hx => (by cases hx), List.nodup_nil⟩, HM1, HB1⟩
  case round =>
    clear HM1 HB1 hz1
    obtain ⟨k, hk, rfl, hok, hmap, hbw⟩ := hrel
    have hwz := hbw.out.size
    have hml := hmap.out.lt
    by_cases hlt : k < n
    · obtain ⟨x, hx⟩ : ∃ x, l[k]? = some x := ⟨l[k]'(by rw [HN.out]; exact hlt), List.getElem?_eq_getElem _⟩
      have HX := Lib.hid hx
      have HTK : Hid (l.take (k + 1) = l.take k ++ [x]) := Lib.hid (by rw [List.take_add_one, hx]; rfl)
      obtain ⟨g, o, rfl, hgB, hc⟩ := it_at HL.out (by omega)
      have hkeep := fun j => hbw.out.cell (p := ⟨g, j, none⟩) (by show g < _; omega)
      obtain ⟨e0, e1, e2, e3, e4, e5, e6⟩ := hc k x hx
      have f0 := (hkeep _).trans e0
      have f1 := (hkeep _).trans e1
      have f2 := (hkeep _).trans e2
      have f3 := (hkeep _).trans e3
      have f4 := (hkeep _).trans e4
      have f5 := (hkeep _).trans e5
      have f6 := (hkeep _).trans e6
      have hxs := HSZ.out x (List.mem_of_getElem? hx)
      have hns : x.name.size ≤ maxLen := by have := hxs.1; unfold maxLen; omega
      have HXS := Lib.hid hxs
      have hk8 : (k : Int) < (n : Int) := by omega
      have hk9 : (0 : Int) ≤ (k : Int) := by omega
      obtain ⟨w2, hw2⟩ : ∃ w2, wr.alloc (.cells #[.string x.name, .string x.maker, .string x.tags, .int .i64 x.stock, .int .i64 x.price, .int .i64 x.born, .bool x.listed] 47) = w2 := ⟨_, rfl⟩
      have HK2 : Hid (Blk w2 wr.heap.size 47 #[.string x.name, .string x.maker, .string x.tags, .int .i64 x.stock, .int .i64 x.price, .int .i64 x.born, .bool x.listed]) := Lib.hid (by rw [← hw2]; exact Blk.new _ _ _)
      have HM2 : Hid (MapIs Tryz.prog 9 okIt w2 w.heap.size k (mapG (rowsG (l.take k)))) := Lib.hid (by rw [← hw2]; exact hmap.out.alloc _)
      have HB2 : Hid (Below w.heap.size w w2) := Lib.hid (by rw [← hw2]; exact hbw.out.alloc hwz _)
      have b0 : w2.cell? ⟨wr.heap.size, 0, none⟩ = some (.string x.name) := HK2.out.cell 0
      have b1 : w2.cell? ⟨wr.heap.size, 1, none⟩ = some (.string x.maker) := HK2.out.cell 1
      have b2 : w2.cell? ⟨wr.heap.size, 2, none⟩ = some (.string x.tags) := HK2.out.cell 2
      have b3 : w2.cell? ⟨wr.heap.size, 3, none⟩ = some (.int .i64 x.stock) := HK2.out.cell 3
      have b4 : w2.cell? ⟨wr.heap.size, 4, none⟩ = some (.int .i64 x.price) := HK2.out.cell 4
      have b5 : w2.cell? ⟨wr.heap.size, 5, none⟩ = some (.int .i64 x.born) := HK2.out.cell 5
      have b6 : w2.cell? ⟨wr.heap.size, 6, none⟩ = some (.bool x.listed) := HK2.out.cell 6
      have hz2 : wr.heap.size < w2.heap.size := HK2.out.lt
      clear e0 e1 e2 e3 e4 e5 e6 hc hkeep hx hxs
      cases hf : findI (l.take k) x.name with
      | some y =>
        have HBAD : Hid (okI l = false) := Lib.hid (by
          cases ho : okI l
          · rfl
          · have h1 := ((okI_iff l).1 ho).2.1
            rw [← List.take_append_drop (k + 1) l, List.map_append, HTK.out, List.map_append, List.append_assoc] at h1
            have h2 := (List.nodup_append.1 h1).2.2
            obtain ⟨hm, hp⟩ : y ∈ l.take k ∧ y.name = x.name := by
              unfold findI at hf
              exact ⟨List.mem_of_find?_eq_some hf, by have := List.find?_some hf; simpa using this⟩
            exact absurd hp (h2 y.name (List.mem_map.2 ⟨y, hm, rfl⟩) x.name (by simp)))
        have HLG : Hid ((mapG (rowsG (l.take k)) (.string x.name.data.toList)).getD (itA it0) = .agg #[.string y.name, .string y.maker, .string y.tags, .int .i64 y.stock, .int .i64 y.price, .int .i64 y.born, .bool y.listed]) := Lib.hid (by rw [mapG_at]; unfold rowsG; rw [hf]; rfl)
        have HLI : Hid ((mapG (rowsG (l.take k)) (.string x.name.data.toList)).isSome = true) := Lib.hid (by rw [mapG_at]; unfold rowsG; rw [hf]; rfl)
        clear hf
        go_wp2_with (first
          | (at_lookup; refine wpList_look_okM _ rfl _ _ 75 rfl 9 47 (string_keyed Tryz.underlying9) Tryz.underlying75 okIt _ (zeroIt _) zeroIt_ok w.heap.size _ _ rfl HM2.out _ _ rfl (WideMaps.keyOf_string_mk Tryz.underlying9 hns) _ HLG.out _ HLI.out ?_))
        go_ret2
        rw [HBAD.out]
        refine ⟨none, rfl, fun h => (by rw [HBAD.out] at h; cases h), ?_⟩
        exact HB2.out.alloc HB2.out.size _
      | none =>
        have HFN := Lib.hid hf
        have HLG : Hid ((mapG (rowsG (l.take k)) (.string x.name.data.toList)).getD (itA it0) = .agg #[.string ⟨#[]⟩, .string ⟨#[]⟩, .string ⟨#[]⟩, .int .i64 0, .int .i64 0, .int .i64 0, .bool false]) := Lib.hid (by rw [mapG_at]; unfold rowsG; rw [hf]; rfl)
        have HLI : Hid ((mapG (rowsG (l.take k)) (.string x.name.data.toList)).isSome = false) := Lib.hid (by rw [mapG_at]; unfold rowsG; rw [hf]; rfl)
        obtain ⟨w3, hw3⟩ : ∃ w3, w2.alloc (.cells #[.string ⟨#[]⟩, .string ⟨#[]⟩, .string ⟨#[]⟩, .int .i64 0, .int .i64 0, .int .i64 0, .bool false] 47) = w3 := ⟨_, rfl⟩
        have HK3 : Hid (Blk w3 wr.heap.size 47 #[.string x.name, .string x.maker, .string x.tags, .int .i64 x.stock, .int .i64 x.price, .int .i64 x.born, .bool x.listed]) := Lib.hid (by rw [← hw3]; exact HK2.out.alloc _)
        have HM3 : Hid (MapIs Tryz.prog 9 okIt w3 w.heap.size k (mapG (rowsG (l.take k)))) := Lib.hid (by rw [← hw3]; exact HM2.out.alloc _)
        have HB3 : Hid (Below w.heap.size w w3) := Lib.hid (by rw [← hw3]; exact HB2.out.alloc HB2.out.size _)
        have HW3 := Lib.hid hw3
        have HMY := Lib.hid (by have h := fmay_any x w3 HXS.out.1 HXS.out.2.1 HXS.out.2.2 (HG.out.keep HB3.out (Nat.le_refl _)); unfold itA at h; exact h)
        clear hf hw3
        go_wp2_with (first
          | (at_lookup; refine wpList_look_okM _ rfl _ _ 75 rfl 9 47 (string_keyed Tryz.underlying9) Tryz.underlying75 okIt _ (zeroIt _) zeroIt_ok w.heap.size _ _ rfl HM2.out _ _ rfl (WideMaps.keyOf_string_mk Tryz.underlying9 hns) _ HLG.out _ HLI.out ?_))
        rw [HW3.out]
        clear hw2 HW3 b0 b1 b2 b3 b4 b5 b6
        refine HMY.out.mono ?_
        rintro e w4 ⟨rfl, hb4⟩
        have HB4 : Hid (Below w.heap.size w w4) := Lib.hid (HB3.out.trans (hb4.mono HB3.out.size))
        cases hm : mayR (roOf x)
        · have HBAD : Hid (okI l = false) := Lib.hid (by
            cases ho : okI l
            · rfl
            · have h1 := ((okI_iff l).1 ho).1 x (List.mem_of_getElem? HX.out)
              rw [hm] at h1; cases h1)
          clear hm HMY hb4
          go_wp2_with fail
          go_ret2
          rw [HBAD.out]
          exact ⟨none, rfl, fun h => (by rw [HBAD.out] at h; cases h), HB4.out⟩
        · have HK4 : Hid (Blk w4 wr.heap.size 47 #[.string x.name, .string x.maker, .string x.tags, .int .i64 x.stock, .int .i64 x.price, .int .i64 x.born, .bool x.listed]) := Lib.hid (HK3.out.kept (below_kept (S := fun _ => False) hb4 (Nat.le_refl _)) (fun h => h))
          have HM4 : Hid (MapIs Tryz.prog 9 okIt w4 w.heap.size k (mapG (rowsG (l.take k)))) := Lib.hid (HM3.out.kept (below_kept (S := fun _ => False) hb4 (Nat.le_refl _)) (fun h => h))
          have HMY2 := Lib.hid hm
          have g0 : w4.cell? ⟨wr.heap.size, 0, none⟩ = some (.string x.name) := HK4.out.cell 0
          have g1 : w4.cell? ⟨wr.heap.size, 1, none⟩ = some (.string x.maker) := HK4.out.cell 1
          have g2 : w4.cell? ⟨wr.heap.size, 2, none⟩ = some (.string x.tags) := HK4.out.cell 2
          have g3 : w4.cell? ⟨wr.heap.size, 3, none⟩ = some (.int .i64 x.stock) := HK4.out.cell 3
          have g4 : w4.cell? ⟨wr.heap.size, 4, none⟩ = some (.int .i64 x.price) := HK4.out.cell 4
          have g5 : w4.cell? ⟨wr.heap.size, 5, none⟩ = some (.int .i64 x.born) := HK4.out.cell 5
          have g6 : w4.cell? ⟨wr.heap.size, 6, none⟩ = some (.bool x.listed) := HK4.out.cell 6
          clear hm HMY hb4
          go_wp2_with (first
            | (at_mapUpdate; refine wpList_storeM _ rfl _ _ _ 75 rfl 9 47 (string_keyed Tryz.underlying9) Tryz.underlying75 okIt w.heap.size k _ rfl HM4.out (by unfold maxLen; omega) _ (.agg #[.string x.name, .string x.maker, .string x.tags, .int .i64 x.stock, .int .i64 x.price, .int .i64 x.born, .bool x.listed]) _ rfl rfl (WideMaps.keyOf_string_mk Tryz.underlying9 hns) (okIt_mk x) ?_; intro w5 hm5 hg5 hs5))
          have HM5 : Hid (MapIs Tryz.prog 9 okIt w5 w.heap.size (k + 1) (mapG (rowsG (l.take (k + 1))))) := Lib.hid (hm5.congr (fun kl => by
            rw [HTK.out]
            rw [mapG_upd]
            cases kl with
            | string q => exact rowsG_upd HFN.out _
            | _ => rfl))
          have HB5 : Hid (Below w.heap.size w w5) := Lib.hid (HB4.out.grown hg5 HB4.out.size (fun j hj => by cases hj; exact Nat.le_refl _))
          have HOK : Hid ((∀ x ∈ l.take (k + 1), mayR (roOf x) = true) ∧ ((l.take (k + 1)).map (·.name)).Nodup) := Lib.hid (by
            rw [HTK.out]
            refine ⟨fun y hy => ?_, ?_⟩
            · rcases List.mem_append.1 hy with hy | hy
              · exact hok.out.1 y hy
              · simp at hy; subst hy; exact HMY2.out
            · rw [List.map_append, List.nodup_append]
              refine ⟨hok.out.2, by simp, fun a ha b hb => ?_⟩
              obtain ⟨y, hy, rfl⟩ := List.mem_map.1 ha
              simp at hb
              subst hb
              exact findI_none.1 HFN.out y hy)
          clear hm5 hg5 hs5
          go_roundw
          case rel => exact ⟨k + 1, by omega, by go_num, HOK, HM5, HB5⟩
          case measure => simp [intOf]; omega
    · obtain rfl : n = k := by omega
      have htl : l.take n = l := by rw [← HN.out, List.take_length]
      rw [htl] at hok hmap
      have HOK : Hid (okI l = true) := Lib.hid ((okI_iff l).2 ⟨hok.out.1, hok.out.2, by rw [HN.out]; omega⟩)
      have dd : decide ((n : Int) ≤ 4096) = true := decide_eq_true (by omega)
      clear htl
      go_wp2_with fail
      go_ret2
      rw [HOK.out]
      exact ⟨some w.heap.size, rfl, fun _ => ⟨w.heap.size, rfl, Nat.le_refl _, hmap.out⟩, hbw.out⟩

end Go.Proofs.YtdcinodbgbkobaaGreatDoor
