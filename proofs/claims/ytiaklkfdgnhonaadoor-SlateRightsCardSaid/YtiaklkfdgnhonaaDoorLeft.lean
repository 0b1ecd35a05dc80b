/- SlateLeft: the walk. -/
import Derived.Test.YtiaklkfdgnhonaaDoorFree
import Derived.Deep.RegionHeld3
namespace Go.Proofs.YtiaklkfdgnhonaaDoor
open Go.Shelf Go.RowKit Go.Lib Go.Sort Go.Maps
set_option linter.unusedVariables false

/-- What a world behind w still holds for the test. -/
def LeftIn (w W : World) (xb cb : Nat) (x : Ch) (c : Cp) : Prop :=
  Below w.heap.size w W ∧ ChAt W xb 0 x ∧ W.cell? ⟨cb, 0, none⟩ = some (.int .i64 c.size) ∧ W.cell? ⟨cb, 1, none⟩ = some (.int .i64 c.maker) ∧ W.cell? ⟨cb, 2, none⟩ = some (.int .i64 c.tag)

set_option maxHeartbeats 2000000 in
set_option maxRecDepth 100000 in
theorem slateLeft_walk (A : Option Addr) (n c : Nat) (l : List Ch) (cp : Cp) (w : World) (ha : ChArg w A n c l) (hg : GlobAt w) :
    Calls Tryd.prog 5 #[.slice A n c, .agg #[.int .i64 cp.size, .int .i64 cp.maker, .int .i64 cp.tag]] w fun e w' => e = .returned (.bool true) ∧ Below w.heap.size w w' := by
  have HA := Lib.hid ha
  have HG := Lib.hid hg
  clear ha hg
  obtain ⟨w0, hw0⟩ : ∃ w0, w.alloc (.cells #[.int .i64 cp.size, .int .i64 cp.maker, .int .i64 cp.tag] 28) = w0 := ⟨_, rfl⟩
  have hb0 : Below w.heap.size w w0 := by rw [← hw0]; exact (Below.refl _ _).alloc (Nat.le_refl _) _
  have bc : Blk w0 w.heap.size 28 #[.int .i64 cp.size, .int .i64 cp.maker, .int .i64 cp.tag] := by rw [← hw0]; exact Blk.new _ _ _
  have hl0 : ChsAt w0 w.heap.size A l := HA.out.at_.below hb0
  have HLG := Lib.hid (long_any w0 w.heap.size A l n c HA.out.len hl0 hb0.size HA.out.few HA.out.size)
  have hz0 := bc.lt
  have HC0 := Lib.hid bc
  clear bc
  go_enter Tryd.func5, Tryd.ntmps5
  go_wp2_with fail
  clear hw0
  refine HLG.out.mono ?_
  rintro e w1 ⟨r, rfl, hr, hb1'⟩
  have hb1 : Below w.heap.size w w1 := hb0.trans (hb1'.mono hb0.size)
  have bc1 : Blk w1 w.heap.size 28 #[.int .i64 cp.size, .int .i64 cp.maker, .int .i64 cp.tag] := (hb1'.block _ hz0).trans HC0.out
  have hl1 : ChsAt w1 w.heap.size A l := hl0.below (hb1'.mono hb0.size)
  have q0 : w1.cell? ⟨w.heap.size, 0, none⟩ = some (.int .i64 cp.size) := bc1.cell 0
  have q1 : w1.cell? ⟨w.heap.size, 1, none⟩ = some (.int .i64 cp.maker) := bc1.cell 1
  have q2 : w1.cell? ⟨w.heap.size, 2, none⟩ = some (.int .i64 cp.tag) := bc1.cell 2
  have HC1 := Lib.hid bc1
  clear HLG HC0 hb1' hb0 hl0 bc1 hz0
  cases r
  · have hs := hr rfl
    have hn40 : n ≤ 40 := by rw [← HA.out.len]; exact hs.1
    have HOK := Lib.hid hs.okc
    have HM := Lib.hid (make_any w1 w.heap.size A l n c cp HA.out.len hl1 hb1.size HA.out.nil (by omega) hs.okc (HG.out.keep hb1 (Nat.le_refl _)))
    clear hr hs
    go_wp2_with fail
    refine HM.out.mono ?_
    rintro e w2 ⟨v2, rfl, hown2, hb2⟩
    obtain ⟨A2, c2, rfl⟩ := own_shape hown2
    have hl2 : ChsAt w2 w.heap.size A l := hl1.below (hb2.mono hb1.size)
    have HB2 : Hid (Below w.heap.size w w2) := Lib.hid (hb1.trans (hb2.mono hb1.size))
    have HR := Lib.hid (rank_any w2 w.heap.size A l n c HA.out.len hl2 HB2.out.size HA.out.nil (by omega) HOK.out)
    have hcap := own_cap hown2
    have HC2 : Hid (Blk w2 w.heap.size 28 #[.int .i64 cp.size, .int .i64 cp.maker, .int .i64 cp.tag]) := Lib.hid ((hb2.block _ HC1.out.lt).trans HC1.out)
    have HO2 := Lib.hid hown2
    clear HM q0 q1 q2 HC1 hown2 hl1 hb2
    go_wp2_with fail
    refine HR.out.mono ?_
    rintro e w3 ⟨v3, rfl, hown3, hb3⟩
    obtain ⟨A3, c3, rfl⟩ := own_shape hown3
    have HC3 : Hid (Blk w3 w.heap.size 28 #[.int .i64 cp.size, .int .i64 cp.maker, .int .i64 cp.tag]) := Lib.hid ((hb3.block _ HC2.out.lt).trans HC2.out)
    have HO3 := Lib.hid (fun h => own_at hown3 h rfl)
    have hown2' : w3.ownsRow w1.heap.size 32 4 (.slice A2 (makeP cp l).length c2) (makeP cp l).length ((makeP cp l).flatMap chC) := owns_kept HO2.out (below_kept (S := fun _ => False) hb3 (Nat.le_refl _)) (fun _ _ h => h)
    have HS3 := Lib.hid (fun h => own_at hown2' h rfl)
    have HFR := Lib.hid (fun k h => own_front hown2' rfl (k := k) h)
    have HB3 : Hid (Below w.heap.size w w3) := Lib.hid (HB2.out.trans (hb3.mono HB2.out.size))
    have hrl : (rankP l).length ≤ n := by rw [← HA.out.len]; exact rankP_len l
    have hml : (makeP cp l).length ≤ n := by rw [← HA.out.len]; exact makeP_len cp l
    have HOR : Hid (Okc (rankP l)) := Lib.hid (fun x hx => HOK.out x ((rankP_is l).mem x |>.1 hx).1)
    have HOM : Hid (Okc (makeP cp l)) := Lib.hid (fun x hx => HOR.out x ((makeP_sub cp l).subset hx))
    have HND := Lib.hid (rankP_nodup l)
    have HMD : Hid (makeP cp l = downP cp (rankP l) []) := Lib.hid rfl
    clear HR hown2' hown3 HO2 HC2 hb3
    generalize makeP cp l = S at *
    generalize rankP l = R at *
    obtain ⟨N, hN⟩ : ∃ N, R.length = N := ⟨_, rfl⟩
    obtain ⟨m, hm⟩ : ∃ m, S.length = m := ⟨_, rfl⟩
    have HN := Lib.hid hN
    have HMM := Lib.hid hm
    rw [hN] at hrl HO3 ⊢
    rw [hm] at hml HS3 HFR hcap ⊢
    clear hN hm
    go_wp2_with fail
    go_loopw [6, 19] (fun nv iv wr => ∃ (k : Nat) (s0 : List Ch), k ≤ N ∧ iv = .int .i64 k ∧ nv = .int .i64 s0.length ∧ s0.length ≤ m ∧ Hid (S = downP cp (R.drop k) s0) ∧ Hid (S.take s0.length = s0) ∧ Hid (Below w3.heap.size w3 wr)) (fun _ iv _ => N - (intOf iv).toNat)
    case atStart => exact ⟨0, [], Nat.zero_le _, rfl, rfl, Nat.zero_le _, Lib.hid HMD.out, Lib.hid rfl, Lib.hid (Below.refl _ _)⟩
    case round =>
      obtain ⟨k, s0, hk, rfl, rfl, hs0, hS, hT, hbw⟩ := hrel
      have HBw : Hid (Below w.heap.size w wr) := Lib.hid (HB3.out.trans (hbw.out.mono HB3.out.size))
      by_cases hkl : k < N
      · obtain ⟨x, hx⟩ : ∃ x, R[k]? = some x := ⟨R[k]'(by rw [HN.out]; exact hkl), List.getElem?_eq_getElem _⟩
        obtain ⟨g3, rfl, hg31, hg32, hcl⟩ := HO3.out (by omega)
        obtain ⟨e0, e1, e2, e3⟩ : ChAt wr g3 (k * 4) x := (hcl k x hx).keep (fun j => hbw.out.cell (p := ⟨g3, j, none⟩) hg32)
        have hdr : R.drop k = x :: R.drop (k + 1) := by
          obtain ⟨hlt', hx'⟩ := List.getElem?_eq_some_iff.1 hx
          rw [List.drop_eq_getElem_cons hlt', hx']
        have hxr : x ∉ R.drop (k + 1) := by
          have := HND.out.sublist (List.drop_sublist k R)
          rw [hdr] at this
          exact (List.nodup_cons.1 this).1
        have hstep := left_step cp x (R.drop (k + 1)) s0 hxr
        rw [← hdr, ← hS.out] at hstep
        have hdn : S = downP cp (R.drop (k + 1)) (stepP cp s0 x) := by rw [hS.out, hdr, downP_cons]
        have HSTEP := Lib.hid hstep
        have HDN := Lib.hid hdn
        have hxo := HOR.out x (List.mem_of_getElem? hx)
        have hk8 : (k : Int) < (N : Int) := by omega
        have hk9 : (0 : Int) ≤ (k : Int) := by omega
        have hs8 : (0 : Int) ≤ (s0.length : Int) := by omega
        have hs9 : (s0.length : Int) ≤ (c2 : Int) := by omega
        obtain ⟨w5, hw5⟩ : ∃ w5, wr.alloc (.cells #[.string x.item, .string x.maker, .string x.tags, .int .i64 x.score] 32) = w5 := ⟨_, rfl⟩
        have bx : Blk w5 wr.heap.size 32 #[.string x.item, .string x.maker, .string x.tags, .int .i64 x.score] := by rw [← hw5]; exact Blk.new _ _ _
        have HB5 : Hid (Below w3.heap.size w3 w5) := Lib.hid (by rw [← hw5]; exact hbw.out.alloc hbw.out.size _)
        have bc5 : Blk w5 w.heap.size 28 #[.int .i64 cp.size, .int .i64 cp.maker, .int .i64 cp.tag] := (HB5.out.block _ HC3.out.lt).trans HC3.out
        have HCX : Hid (ChAt w5 wr.heap.size 0 x) := Lib.hid ⟨bx.cell 0, bx.cell 1, bx.cell 2, bx.cell 3⟩
        have d0 : w5.cell? ⟨wr.heap.size, 0, none⟩ = some (.string x.item) := bx.cell 0
        have d1 : w5.cell? ⟨wr.heap.size, 1, none⟩ = some (.string x.maker) := bx.cell 1
        have d2 : w5.cell? ⟨wr.heap.size, 2, none⟩ = some (.string x.tags) := bx.cell 2
        have d3 : w5.cell? ⟨wr.heap.size, 3, none⟩ = some (.int .i64 x.score) := bx.cell 3
        have q0 : w5.cell? ⟨w.heap.size, 0, none⟩ = some (.int .i64 cp.size) := bc5.cell 0
        have q1 : w5.cell? ⟨w.heap.size, 1, none⟩ = some (.int .i64 cp.maker) := bc5.cell 1
        have q2 : w5.cell? ⟨w.heap.size, 2, none⟩ = some (.int .i64 cp.tag) := bc5.cell 2
        have z5 : wr.heap.size < w5.heap.size := bx.lt
        have z6 : w.heap.size < w5.heap.size := bc5.lt
        have hff : ∀ W, LeftIn w5 W wr.heap.size w.heap.size x cp → Calls Tryd.prog 18 #[.slice A2 s0.length c2, .agg #[.string x.item, .string x.maker, .string x.tags, .int .i64 x.score], .agg #[.int .i64 cp.size, .int .i64 cp.maker, .int .i64 cp.tag]] W fun e w' => e = .returned (.bool (fitsB cp s0 x)) ∧ LeftIn w5 w' wr.heap.size w.heap.size x cp := by
          rintro W ⟨hbW, hxW, h0, h1, h2⟩
          have hfr : ChsAt W w3.heap.size A2 s0 := by
            have := HFR.out s0.length hs0
            rw [hT.out] at this
            exact RowIn.below (RowIn.below this HB5.out) (hbW.mono HB5.out.size)
          refine (fits_any W w3.heap.size A2 s0 s0.length c2 x cp rfl hfr (Nat.le_trans HB5.out.size hbW.size) (by omega) (fun y hy => HOM.out y (by rw [← hT.out] at hy; exact List.mem_of_mem_take hy)) hxo.2.2).mono ?_
          rintro e w' ⟨rfl, hb'⟩
          have zW := hbW.size
          exact ⟨rfl, hbW.trans (hb'.mono hbW.size), hxW.keep (fun j => hb'.cell (p := ⟨wr.heap.size, j, none⟩) (by show wr.heap.size < W.heap.size; omega)), (hb'.cell (p := ⟨w.heap.size, 0, none⟩) (by show w.heap.size < W.heap.size; omega)).trans h0, (hb'.cell (p := ⟨w.heap.size, 1, none⟩) (by show w.heap.size < W.heap.size; omega)).trans h1, (hb'.cell (p := ⟨w.heap.size, 2, none⟩) (by show w.heap.size < W.heap.size; omega)).trans h2⟩
        have HFF := Lib.hid hff
        clear hff hcl hx hdr hxr hstep hdn bx bc5
        by_cases hn : s0.length < m
        · obtain ⟨y, hy⟩ : ∃ y, S[s0.length]? = some y := ⟨S[s0.length]'(by rw [HMM.out]; exact hn), List.getElem?_eq_getElem _⟩
          obtain ⟨g2, rfl, hg21, hg22, hc2⟩ := HS3.out (by omega)
          obtain ⟨f0, f1, f2, f3⟩ : ChAt w5 g2 (s0.length * 4) y := (hc2 _ y hy).keep (fun j => HB5.out.cell (p := ⟨g2, j, none⟩) hg22)
          have hn1 : decide (s0.length < m) = true := decide_eq_true hn
          have hn2 : (s0.length : Int) < (m : Int) := by omega
          have HEQ : Hid (∀ b, eqB y x = b → fitsB cp s0 x = b) := Lib.hid (fun b hb => by
            rw [Bool.eq_iff_iff, ← HSTEP.out, hy, ← hb, eqB_iff]
            exact ⟨fun h => Option.some.inj h, fun h => by rw [h]⟩)
          clear hc2 hy
          cases he : eqB y x
          · have HF := Lib.hid (HEQ.out _ he)
            have he' : eqB ⟨y.item, y.maker, y.tags, y.score⟩ ⟨x.item, x.maker, x.tags, x.score⟩ = false := he
            go_wp2_with fail
            go_quiet (fail)
            go_wp2_with fail
            go_region_held3 (fun W => W.cell? ⟨wr.heap.size, 0, none⟩ = some (.string x.item) ∧ W.cell? ⟨wr.heap.size, 1, none⟩ = some (.string x.maker) ∧ W.cell? ⟨wr.heap.size, 2, none⟩ = some (.string x.tags) ∧ W.cell? ⟨wr.heap.size, 3, none⟩ = some (.int .i64 x.score) ∧ W.cell? ⟨w.heap.size, 0, none⟩ = some (.int .i64 cp.size) ∧ W.cell? ⟨w.heap.size, 1, none⟩ = some (.int .i64 cp.maker) ∧ W.cell? ⟨w.heap.size, 2, none⟩ = some (.int .i64 cp.tag)) (exact ⟨by assumption, by assumption, by assumption, by assumption, by assumption, by assumption, by assumption⟩)
              (first | (go_at_call 18; (with_reducible refine (HFF.out _ ?_).mono ?_); (exact ⟨below_drewN (Below.refl _ _) _, HCX.out, q0, q1, q2⟩); rintro e w' ⟨rfl, y1, ⟨y6, y7, y8, y9⟩, y3, y4, y5⟩))
            rw [HF.out]
            go_wp2_with fail
            go_roundw
            case rel =>
              exact ⟨k + 1, s0, by omega, by go_num, rfl, hs0, Lib.hid (by rw [HDN.out]; unfold stepP; rw [HF.out]; rfl), hT, Lib.hid (HB5.out.trans (y1.mono HB5.out.size))⟩
            case measure => simp [intOf]; omega
          · have HF := Lib.hid (HEQ.out _ he)
            have he' : eqB ⟨y.item, y.maker, y.tags, y.score⟩ ⟨x.item, x.maker, x.tags, x.score⟩ = true := he
            go_wp2_with fail
            go_quiet (fail)
            go_wp2_with fail
            go_region_held3 (fun W => W.cell? ⟨wr.heap.size, 0, none⟩ = some (.string x.item) ∧ W.cell? ⟨wr.heap.size, 1, none⟩ = some (.string x.maker) ∧ W.cell? ⟨wr.heap.size, 2, none⟩ = some (.string x.tags) ∧ W.cell? ⟨wr.heap.size, 3, none⟩ = some (.int .i64 x.score) ∧ W.cell? ⟨w.heap.size, 0, none⟩ = some (.int .i64 cp.size) ∧ W.cell? ⟨w.heap.size, 1, none⟩ = some (.int .i64 cp.maker) ∧ W.cell? ⟨w.heap.size, 2, none⟩ = some (.int .i64 cp.tag)) (exact ⟨by assumption, by assumption, by assumption, by assumption, by assumption, by assumption, by assumption⟩)
              (first | (go_at_call 18; (with_reducible refine (HFF.out _ ?_).mono ?_); (exact ⟨below_drewN (Below.refl _ _) _, HCX.out, q0, q1, q2⟩); rintro e w' ⟨rfl, y1, ⟨y6, y7, y8, y9⟩, y3, y4, y5⟩))
            rw [HF.out]
            go_wp2_with fail
            go_roundw
            case rel =>
              have hS2 : S = downP cp (R.drop (k + 1)) (s0 ++ [x]) := by rw [HDN.out]; unfold stepP; rw [HF.out]; rfl
              exact ⟨k + 1, s0 ++ [x], by omega, by go_num, by rw [List.length_append]; go_num, by simp; omega, Lib.hid hS2, Lib.hid (by rw [hS2]; exact down_take _ _ _), Lib.hid (HB5.out.trans (y1.mono HB5.out.size))⟩
            case measure => simp [intOf]; omega
        · have hn1 : decide (s0.length < m) = false := decide_eq_false hn
          have HF : Hid (fitsB cp s0 x = false) := Lib.hid (by
            rw [Bool.eq_false_iff]
            intro h
            have := HSTEP.out.2 h
            rw [List.getElem?_eq_none (by rw [HMM.out]; omega)] at this
            cases this)
          go_wp2_with fail
          go_quiet (fail)
          go_wp2_with fail
          go_region_held3 (fun W => W.cell? ⟨wr.heap.size, 0, none⟩ = some (.string x.item) ∧ W.cell? ⟨wr.heap.size, 1, none⟩ = some (.string x.maker) ∧ W.cell? ⟨wr.heap.size, 2, none⟩ = some (.string x.tags) ∧ W.cell? ⟨wr.heap.size, 3, none⟩ = some (.int .i64 x.score) ∧ W.cell? ⟨w.heap.size, 0, none⟩ = some (.int .i64 cp.size) ∧ W.cell? ⟨w.heap.size, 1, none⟩ = some (.int .i64 cp.maker) ∧ W.cell? ⟨w.heap.size, 2, none⟩ = some (.int .i64 cp.tag)) (exact ⟨by assumption, by assumption, by assumption, by assumption, by assumption, by assumption, by assumption⟩)
            (first | (go_at_call 18; (with_reducible refine (HFF.out _ ?_).mono ?_); (exact ⟨below_drewN (Below.refl _ _) _, HCX.out, q0, q1, q2⟩); rintro e w' ⟨rfl, y1, ⟨y6, y7, y8, y9⟩, y3, y4, y5⟩))
          rw [HF.out]
          go_wp2_with fail
          go_roundw
          case rel =>
            exact ⟨k + 1, s0, by omega, by go_num, rfl, hs0, Lib.hid (by rw [HDN.out]; unfold stepP; rw [HF.out]; rfl), hT, Lib.hid (HB5.out.trans (y1.mono HB5.out.size))⟩
          case measure => simp [intOf]; omega
      · obtain rfl : k = N := by omega
        have hfin : S = s0 := by
          have := hS.out
          rw [List.drop_of_length_le (by rw [HN.out]; exact Nat.le_refl _), downP_nil] at this
          exact this
        have hlen : s0.length = m := by rw [← HMM.out, hfin]
        have heq : ((s0.length : Int) == (m : Int)) = true := by rw [hlen]; simp
        have HW := Lib.hid (awake_any wr (HG.out.keep HBw.out (Nat.le_refl _)))
        clear hfin hlen
        go_wp2_with fail
        refine HW.out.mono ?_
        rintro e w5 ⟨rfl, hb5⟩
        have HB5 : Hid (Below w.heap.size w w5) := Lib.hid (HBw.out.trans (hb5.mono HBw.out.size))
        clear hb5 HW
        go_wp2_with fail
        go_ret
        exact ⟨rfl, HB5.out⟩
  · have HW := Lib.hid (awake_any w1 (HG.out.keep hb1 (Nat.le_refl _)))
    clear hr
    go_wp2_with fail
    refine HW.out.mono ?_
    rintro e w5 ⟨rfl, hb5⟩
    have HB5 : Hid (Below w.heap.size w w5) := Lib.hid (hb1.trans (hb5.mono hb1.size))
    clear hb5 HW
    go_wp2_with fail
    go_ret
    exact ⟨rfl, HB5.out⟩

end Go.Proofs.YtiaklkfdgnhonaaDoor
