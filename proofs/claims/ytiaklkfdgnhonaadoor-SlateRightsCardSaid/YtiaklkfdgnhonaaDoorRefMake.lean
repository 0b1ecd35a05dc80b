/- Make of the document. -/
import Derived.Test.YtiaklkfdgnhonaaDoorRefRank
namespace Go.Proofs.YtiaklkfdgnhonaaDoor
open Go.Shelf Go.RowKit Go.Lib Go.Sort Go.Maps
set_option linter.unusedVariables false

set_option maxHeartbeats 2000000 in
set_option maxRecDepth 100000 in
theorem refmake_any (w : World) (B : Nat) (A : Option Addr) (l : List Ch) (n c : Nat) (cp : Cp) (hn : l.length = n) (hl : ChsAt w B A l) (hB : B ≤ w.heap.size) (hb : n ≤ 1000) (hok : Okc l) :
    Calls Tryd.prog 19 #[.slice A n c, .agg #[.int .i64 cp.size, .int .i64 cp.maker, .int .i64 cp.tag]] w fun e w' => ∃ v, e = .returned v ∧ w'.ownsRow w.heap.size 32 4 v (makeP cp l).length ((makeP cp l).flatMap chC) ∧ Below w.heap.size w w' := by
  obtain ⟨i0, hi0, hz0, hz1, hz2⟩ := info_parts ch_info
  have HMK : Hid (makeP cp l = downP cp (rankP l) []) := Lib.hid rfl
  obtain ⟨w1, hw1⟩ : ∃ w1, w.alloc (.cells #[.int .i64 cp.size, .int .i64 cp.maker, .int .i64 cp.tag] 28) = w1 := ⟨_, rfl⟩
  have z1 : Hid (w1.heap.size = w.heap.size + 1) := Lib.hid (by rw [← hw1]; simp)
  obtain ⟨w2, hw2⟩ : ∃ w2, w1.alloc (.cells #[] 32) = w2 := ⟨_, rfl⟩
  have z2 : Hid (w2.heap.size = w.heap.size + 2) := Lib.hid (by rw [← hw2, World.size_alloc, z1.out])
  have hC2 : Blk w2 w.heap.size 28 #[.int .i64 cp.size, .int .i64 cp.maker, .int .i64 cp.tag] := by rw [← hw2, ← hw1]; exact (Blk.new _ _ _).alloc _
  have hO2 : w2.ownsRow w1.heap.size 32 4 (.slice (some ⟨w1.heap.size, 0, none⟩) 0 0) 0 [] := by rw [← hw2]; exact own_empty _ _ _
  have hB2 : Below w.heap.size w w2 := by
    rw [← hw2, ← hw1]
    exact ((Below.refl _ _).alloc (Nat.le_refl _) _).alloc (by simp) _
  have HR := Lib.hid (refrank_any w2 B A l n c hn (hl.below (hB2.mono hB)) (by have := z2.out; omega) hb)
  have hrl : (rankP l).length ≤ n := by rw [← hn]; exact rankP_len l
  have HOK : Hid (Okc (rankP l)) := Lib.hid (fun x hx => hok x ((rankP_is l).mem x |>.1 hx).1)
  clear hl hn
  go_enter Tryd.func19, Tryd.ntmps19
  go_wp2_with fail
  refine HR.out.mono ?_
  rintro e w4 ⟨v4, rfl, hown4, hb4⟩
  obtain ⟨A4, c4, rfl⟩ := own_shape hown4
  have HS4 := Lib.hid (fun h => own_at hown4 h rfl)
  have HC4 : Hid (Blk w4 w.heap.size 28 #[.int .i64 cp.size, .int .i64 cp.maker, .int .i64 cp.tag]) := Lib.hid ((hb4.block _ hC2.lt).trans hC2)
  have HO4 : Hid (w4.ownsRow w1.heap.size 32 4 (.slice (some ⟨w1.heap.size, 0, none⟩) 0 0) 0 []) := Lib.hid (owns_kept hO2 (below_kept (S := fun _ => False) hb4 (Nat.le_refl _)) (fun _ _ h => h))
  have HB4 : Hid (Below w.heap.size w w4) := Lib.hid (hB2.trans (hb4.mono hB2.size))
  have z4 : w2.heap.size ≤ w4.heap.size := hb4.size
  generalize rankP l = R at *
  obtain ⟨N, hN⟩ : ∃ N, R.length = N := ⟨_, rfl⟩
  have HN := Lib.hid hN
  rw [hN] at hrl ⊢
  have y1 : w.heap.size < w1.heap.size := by have := z1.out; omega
  have y2 : w1.heap.size < w2.heap.size := by have := z1.out; have := z2.out; omega
  generalize w1.heap.size = ob at *
  generalize w2.heap.size = B2 at *
  clear HR hown4 hb4 hC2 hO2 hB2 hw1 hw2 z1 z2 hN
  go_wp2_with fail
  go_loopw [5, 12] (fun s i wr => ∃ (k : Nat) (out : List Ch), k ≤ N ∧ i = .int .i64 k ∧ Hid (downP cp R [] = downP cp (R.drop k) out) ∧ out.length ≤ k ∧ Hid (Okc out) ∧ Hid (wr.ownsRow ob 32 4 s out.length (out.flatMap chC)) ∧ Hid (∀ j, s.ownBlock = some j → j = ob ∨ w4.heap.size ≤ j) ∧ Hid (Kept (fun q => q = ob ∨ w4.heap.size ≤ q) w4 wr)) (fun _ i _ => N - (intOf i).toNat)
  case atStart => exact ⟨0, [], Nat.zero_le _, rfl, Lib.hid rfl, Nat.le_refl _, Lib.hid (fun x hx => by cases hx), HO4, Lib.hid (fun j hj => by cases hj; exact Or.inl rfl), Lib.hid (Kept.refl _ _)⟩
  case round =>
    obtain ⟨k, out, hk, rfl, hout, hol, hoo, hrow, hob, hkw⟩ := hrel
    have HBw : Hid (Below w.heap.size w wr) := Lib.hid (HB4.out.trans (hkw.out.toBelow (fun i hi => by omega) (by omega)))
    have z5 := hkw.out.size
    obtain ⟨A5, c5, hr⟩ := own_shape hrow.out
    rw [hr] at hrow hob ⊢
    clear hr
    by_cases hlt : k < N
    · obtain ⟨x, hx⟩ : ∃ x, R[k]? = some x := ⟨R[k]'(by rw [HN.out]; exact hlt), List.getElem?_eq_getElem _⟩
      have hxo := HOK.out x (List.mem_of_getElem? hx)
      obtain ⟨g, rfl, hgb, hgl, hcl⟩ := HS4.out (by rw [HN.out]; omega)
      obtain ⟨e0, e1, e2, e3⟩ : ChAt wr g (k * 4) x := (hcl k x hx).keep (fun j => hkw.out.cell (p := ⟨g, j, none⟩) hgl (by show ¬ (g = ob ∨ w4.heap.size ≤ g); omega))
      have hdr : R.drop k = x :: R.drop (k + 1) := by
        obtain ⟨hlt', hx'⟩ := List.getElem?_eq_some_iff.1 hx
        rw [List.drop_eq_getElem_cons hlt', hx']
      have HD := Lib.hid hdr
      have hk8 : (k : Int) < (N : Int) := by omega
      have hk9 : (0 : Int) ≤ (k : Int) := by omega
      clear hdr hx
      obtain ⟨w5, hw5⟩ : ∃ w5, wr.alloc (.cells #[.string x.item, .string x.maker, .string x.tags, .int .i64 x.score] 32) = w5 := ⟨_, rfl⟩
      have bx : Blk w5 wr.heap.size 32 #[.string x.item, .string x.maker, .string x.tags, .int .i64 x.score] := by rw [← hw5]; exact Blk.new _ _ _
      have HK5 : Hid (Kept (fun q => q = ob ∨ w4.heap.size ≤ q) w4 w5) := Lib.hid (by rw [← hw5]; exact hkw.out.alloc _)
      have bc : Blk w5 w.heap.size 28 #[.int .i64 cp.size, .int .i64 cp.maker, .int .i64 cp.tag] := HC4.out.kept HK5.out (by omega)
      have hr5 : w5.ownsRow ob 32 4 (.slice A5 out.length c5) out.length (out.flatMap chC) := by rw [← hw5]; exact hrow.out.alloc _
      have z6 : Hid (w5.heap.size = wr.heap.size + 1) := Lib.hid (by rw [← hw5]; simp)
      have d0 : w5.cell? ⟨wr.heap.size, 0, none⟩ = some (.string x.item) := bx.cell 0
      have d1 : w5.cell? ⟨wr.heap.size, 1, none⟩ = some (.string x.maker) := bx.cell 1
      have d2 : w5.cell? ⟨wr.heap.size, 2, none⟩ = some (.string x.tags) := bx.cell 2
      have d3 : w5.cell? ⟨wr.heap.size, 3, none⟩ = some (.int .i64 x.score) := bx.cell 3
      have q0 : w5.cell? ⟨w.heap.size, 0, none⟩ = some (.int .i64 cp.size) := bc.cell 0
      have q1 : w5.cell? ⟨w.heap.size, 1, none⟩ = some (.int .i64 cp.maker) := bc.cell 1
      have q2 : w5.cell? ⟨w.heap.size, 2, none⟩ = some (.int .i64 cp.tag) := bc.cell 2
      have HF := Lib.hid (fits_any w5 w5.heap.size A5 out out.length c5 x cp rfl (RowIn.of_own hr5) (Nat.le_refl _) (by omega) hoo.out hxo.2.2)
      have HBX := Lib.hid bx
      have HR5 := Lib.hid hr5
      clear bx bc hr5 hrow hkw
      go_wp2_with fail
      clear hw5
      refine HF.out.mono ?_
      rintro e w6 ⟨rfl, hb6⟩
      have HK6 : Hid (Kept (fun q => q = ob ∨ w4.heap.size ≤ q) w4 w6) := Lib.hid (HK5.out.below hb6 HK5.out.size)
      have bx6 : Blk w6 wr.heap.size 32 #[.string x.item, .string x.maker, .string x.tags, .int .i64 x.score] := (hb6.block _ HBX.out.lt).trans HBX.out
      have HR6 : Hid (w6.ownsRow ob 32 4 (.slice A5 out.length c5) out.length (out.flatMap chC)) := Lib.hid (owns_kept HR5.out (below_kept (S := fun _ => False) hb6 (Nat.le_refl _)) (fun _ _ h => h))
      have z7 : wr.heap.size < w6.heap.size := by have := hb6.size; have := z6.out; omega
      clear d0 d1 d2 d3 q0 q1 q2
      have d0 : w6.cell? ⟨wr.heap.size, 0, none⟩ = some (.string x.item) := bx6.cell 0
      have d1 : w6.cell? ⟨wr.heap.size, 1, none⟩ = some (.string x.maker) := bx6.cell 1
      have d2 : w6.cell? ⟨wr.heap.size, 2, none⟩ = some (.string x.tags) := bx6.cell 2
      have d3 : w6.cell? ⟨wr.heap.size, 3, none⟩ = some (.int .i64 x.score) := bx6.cell 3
      have HX1 : Hid (∀ u ∈ chC x, u.oneCell' = true) := Lib.hid (fun u hu => chC_one [x] u (by simpa using hu))
      have HST : Hid (∀ q, fitsB cp out x = q → stepP cp out x = if q = true then out ++ [x] else out) := Lib.hid (fun q h => by unfold stepP; rw [h])
      clear HF HR5 HK5 HBX bx6 hb6 e0 e1 e2 e3
      cases hf : fitsB cp out x
      · have HS := Lib.hid (HST.out _ hf)
        clear hf
        go_wp2_with fail
        go_roundw
        case rel => exact ⟨k + 1, out, by omega, by go_num, Lib.hid (by rw [hout.out, HD.out, downP_cons, HS.out]; rfl), by omega, hoo, HR6, hob, HK6⟩
        case measure => simp [intOf]; omega
      · have HS := Lib.hid (HST.out _ hf)
        clear hf
        go_wp2_with (first
          | (at_builtin; (refine wpList_append_row _ rfl _ _ 22 rfl ob 32 i0 _ 4 56 Tryd.underlying22 hi0 hz0 hz1 hz2 rfl (by omega) (.slice A5 out.length c5) out.length (out.flatMap chC) rfl (HR6.out.alloc _) (w6.heap.size + 1) (some ⟨w6.heap.size, 0, none⟩) 1 1 (chC x) rfl (one_row w6 x _) (fun h => by cases h) (HX1.out) (by unfold maxLen; omega) (by omega) (by simp; omega) ?_); intro v7 w7 ho7 hg7 hv7)
          | fail)
        go_roundw
        case rel =>
          refine ⟨k + 1, out ++ [x], by omega, by go_num, Lib.hid (by rw [hout.out, HD.out, downP_cons, HS.out]; rfl), by simp; omega, Lib.hid (fun u hu => ?_), Lib.hid (own_snoc ho7), Lib.hid (fun j hj => ?_), Lib.hid ?_⟩
          · rcases List.mem_append.1 hu with hu | hu
            · exact hoo.out u hu
            · simp at hu; rw [hu]; exact hxo
          · rcases hv7 with e | e <;> rw [e] at hj
            · exact hob.out j hj
            · simp at hj; omega
          · exact (HK6.out.alloc _).grown hg7 (fun j hj => Or.inl (hob.out j hj))
        case measure => simp [intOf]; omega
    · go_wp2_with fail
      go_ret
      refine ⟨_, rfl, ?_, HBw.out⟩
      have hz := hout.out
      rw [List.drop_of_length_le (by rw [HN.out]; omega), downP_nil] at hz
      rw [HMK.out, hz]
      exact hrow.out.mono (by omega)

end Go.Proofs.YtiaklkfdgnhonaaDoor
