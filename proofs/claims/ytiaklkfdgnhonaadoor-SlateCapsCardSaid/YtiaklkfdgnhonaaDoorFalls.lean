/- SlateFalls: the walk. -/
import Derived.Test.YtiaklkfdgnhonaaDoorMakes
namespace Go.Proofs.YtiaklkfdgnhonaaDoor
open Go.Shelf Go.RowKit Go.Lib Go.Sort Go.Maps
set_option linter.unusedVariables false

/-- x is not beside y for its maker's sake. -/
def okA (x y : Ch) : Bool := eqB x y || (!(x.maker.toList == y.maker.toList)) || x.maker.toList.isEmpty
theorem okA_iff (x y : Ch) : okA x y = true ↔ (y = x ∨ ¬ (x.maker = y.maker ∧ x.maker ≠ ⟨#[]⟩)) := by
  unfold okA
  rw [bne_list, emp_iff]
  simp only [Bool.or_eq_true, eqB_iff, Bool.not_eq_true', decide_eq_false_iff_not, decide_eq_true_eq]
  constructor
  · rintro ((h | h) | h)
    · exact Or.inl h.symm
    · exact Or.inr (fun h2 => h h2.1)
    · exact Or.inr (fun h2 => h2.2 h)
  · rintro (h | h)
    · exact Or.inl (Or.inl h.symm)
    · by_cases e : x.maker = y.maker
      · exact Or.inr (Classical.byContradiction fun h2 => h ⟨e, h2⟩)
      · exact Or.inl (Or.inr e)

set_option maxHeartbeats 4000000 in
set_option maxRecDepth 100000 in
theorem slateFalls_walk (A : Option Addr) (n c : Nat) (l : List Ch) (cp : Cp) (w : World) (ha : ChArg w A n c l) (hg : GlobAt w) :
    Calls Tryd.prog 8 #[.slice A n c, .agg #[.int .i64 cp.size, .int .i64 cp.maker, .int .i64 cp.tag]] w fun e w' => e = .returned (.bool true) ∧ Below w.heap.size w w' := by
  have HA := Lib.hid ha
  have HG := Lib.hid hg
  clear ha hg
  obtain ⟨w0, hw0⟩ : ∃ w0, w.alloc (.cells #[.int .i64 cp.size, .int .i64 cp.maker, .int .i64 cp.tag] 28) = w0 := ⟨_, rfl⟩
  have hb0 : Below w.heap.size w w0 := by rw [← hw0]; exact (Below.refl _ _).alloc (Nat.le_refl _) _
  have bc : Blk w0 w.heap.size 28 #[.int .i64 cp.size, .int .i64 cp.maker, .int .i64 cp.tag] := by rw [← hw0]; exact Blk.new _ _ _
  have hl0 : ChsAt w0 w.heap.size A l := HA.out.at_.below hb0
  have HLG := Lib.hid (long_any w0 w.heap.size A l n c HA.out.len hl0 hb0.size HA.out.few HA.out.size)
  have hz0 := bc.lt
  have HC0 := Lib.hid bc
  clear bc
  go_enter Tryd.func8, Tryd.ntmps8
  go_wp2_with fail
  clear hw0
  refine HLG.out.mono ?_
  rintro e w1 ⟨r, rfl, hr, hb1'⟩
  have hb1 : Below w.heap.size w w1 := hb0.trans (hb1'.mono hb0.size)
  have bc1 : Blk w1 w.heap.size 28 #[.int .i64 cp.size, .int .i64 cp.maker, .int .i64 cp.tag] := (hb1'.block _ hz0).trans HC0.out
  have hl1 : ChsAt w1 w.heap.size A l := hl0.below (hb1'.mono hb0.size)
  have q0 : w1.cell? ⟨w.heap.size, 0, none⟩ = some (.int .i64 cp.size) := bc1.cell 0
  have q1 : w1.cell? ⟨w.heap.size, 1, none⟩ = some (.int .i64 cp.maker) := bc1.cell 1
  have q2 : w1.cell? ⟨w.heap.size, 2, none⟩ = some (.int .i64 cp.tag) := bc1.cell 2
  have HC1 := Lib.hid bc1
  clear HLG HC0 hb1' hb0 hl0 bc1 hz0
  cases r
  · have hs := hr rfl
    have hn40 : n ≤ 40 := by rw [← HA.out.len]; exact hs.1
    have HOK := Lib.hid hs.okc
    have HM := Lib.hid (make_any w1 w.heap.size A l n c cp HA.out.len hl1 hb1.size HA.out.nil (by omega) hs.okc (HG.out.keep hb1 (Nat.le_refl _)))
    clear hr hs
    go_wp2_with fail
    refine HM.out.mono ?_
    rintro e w2 ⟨v2, rfl, hown2, hb2⟩
    obtain ⟨A2, c2, rfl⟩ := own_shape hown2
    have HB2 : Hid (Below w.heap.size w w2) := Lib.hid (hb1.trans (hb2.mono hb1.size))
    have hl2 : ChsAt w2 w.heap.size A l := hl1.below (hb2.mono hb1.size)
    have HC2 : Hid (Blk w2 w.heap.size 28 #[.int .i64 cp.size, .int .i64 cp.maker, .int .i64 cp.tag]) := Lib.hid ((hb2.block _ HC1.out.lt).trans HC1.out)
    have HR := Lib.hid (rank_any w2 w.heap.size A l n c HA.out.len hl2 HB2.out.size HA.out.nil (by omega) HOK.out)
    have HO2 := Lib.hid hown2
    clear HM q0 q1 q2 HC1 hown2 hl1 hb2
    go_wp2_with fail
    refine HR.out.mono ?_
    rintro e w3 ⟨v3, rfl, hown3, hb3⟩
    obtain ⟨A3, c3, rfl⟩ := own_shape hown3
    have bc3 : Blk w3 w.heap.size 28 #[.int .i64 cp.size, .int .i64 cp.maker, .int .i64 cp.tag] := (hb3.block _ HC2.out.lt).trans HC2.out
    have HO3 := Lib.hid (fun h => own_at hown3 h rfl)
    have hown2' : w3.ownsRow w1.heap.size 32 4 (.slice A2 (makeP cp l).length c2) (makeP cp l).length ((makeP cp l).flatMap chC) := owns_kept HO2.out (below_kept (S := fun _ => False) hb3 (Nat.le_refl _)) (fun _ _ h => h)
    have HS3 := Lib.hid (fun h => own_at hown2' h rfl)
    have HB3 : Hid (Below w.heap.size w w3) := Lib.hid (HB2.out.trans (hb3.mono HB2.out.size))
    have z3 := HB3.out.size
    have hrl : (rankP l).length ≤ n := by rw [← HA.out.len]; exact rankP_len l
    have hml : (makeP cp l).length ≤ n := by rw [← HA.out.len]; exact makeP_len cp l
    have HOR : Hid (Okc (rankP l)) := Lib.hid (fun x hx => HOK.out x ((rankP_is l).mem x |>.1 hx).1)
    have HFALL := Lib.hid (make_falls cp l)
    have HAL : Hid (∀ x, x ∈ rankP l → tagsP x.tags = [] → (∀ y ∈ rankP l, y = x ∨ ¬ (x.maker = y.maker ∧ x.maker ≠ ⟨#[]⟩)) → (((makeP cp l).length : Nat) : Int) < cp.size → x ∈ makeP cp l) := Lib.hid (fun x h1 h2 h3 h4 => make_alone h1 h2 h3 h4)
    have HFI : Hid (∀ x, (rankP l)[0]? = some x → 0 < cp.size → (makeP cp l)[0]? = some x) := Lib.hid (fun x h1 h2 => by
      rcases hr : rankP l with _ | ⟨x', r⟩
      · rw [hr] at h1; cases h1
      · rw [hr] at h1
        simp at h1
        subst h1
        exact make_first hr h2)
    have q0 : w3.cell? ⟨w.heap.size, 0, none⟩ = some (.int .i64 cp.size) := bc3.cell 0
    have HC3 := Lib.hid bc3
    have zc3 := bc3.lt
    clear HR hown2' hown3 HO2 HC2 hb3 bc3
    generalize makeP cp l = S at *
    generalize rankP l = R at *
    obtain ⟨N, hN⟩ : ∃ N, R.length = N := ⟨_, rfl⟩
    obtain ⟨m, hm⟩ : ∃ m, S.length = m := ⟨_, rfl⟩
    have HN := Lib.hid hN
    have HMM := Lib.hid hm
    rw [hN] at hrl HO3 ⊢
    rw [hm] at hml HS3 HAL ⊢
    clear hN hm
    go_wp2_with fail
    go_loopw [26] (fun iv wr => ∃ (i d : Nat), i ≤ m ∧ iv = .int .i64 i ∧ wr = w3.drewN d) (fun iv _ => m - (intOf iv).toNat)
    case atStart => exact ⟨0, 0, Nat.zero_le _, rfl, rfl⟩
    case round =>
      obtain ⟨i, d, hi, rfl, rfl⟩ := hrel
      by_cases hil : i < m
      · rcases Nat.eq_zero_or_pos i with h0 | h0
        · subst h0
          have hd0 : decide ((0 : Int) < ((0 : Nat) : Int)) = false := by simp
          go_wp2_with fail
          go_quiet (fail)
          go_wp2_with fail
          go_roundw
          case rel => exact ⟨0 + 1, d + nq, by omega, by go_num, by first | rfl | simp⟩
          case measure => simp [intOf]; omega
        · obtain ⟨i', rfl⟩ : ∃ i', i = i' + 1 := ⟨i - 1, by omega⟩
          obtain ⟨x, hx⟩ : ∃ x, S[i' + 1]? = some x := ⟨S[i' + 1]'(by rw [HMM.out]; exact hil), List.getElem?_eq_getElem _⟩
          obtain ⟨y, hy⟩ : ∃ y, S[i']? = some y := ⟨S[i']'(by rw [HMM.out]; omega), List.getElem?_eq_getElem _⟩
          obtain ⟨g2, rfl, hg21, hg22, hc2⟩ := HS3.out (by omega)
          obtain ⟨e0, e1, e2, e3⟩ := hc2 _ x hx
          obtain ⟨f0, f1, f2, f3⟩ := hc2 _ y hy
          have hle : x.score ≤ y.score := by
            obtain ⟨h1, h1'⟩ := List.getElem?_eq_some_iff.1 hx
            obtain ⟨h2, h2'⟩ := List.getElem?_eq_some_iff.1 hy
            have := List.pairwise_iff_getElem.1 HFALL.out i' (i' + 1) h2 h1 (by omega)
            rw [h1', h2'] at this
            exact this
          have hd0 : decide ((0 : Int) < ((i' + 1 : Nat) : Int)) = true := by first | (simp; done) | (simp; omega)
          have hd1 : (0 : Int) < (i' : Int) + 1 := by omega
          have hd2 : ¬ y.score < x.score := by omega
          have hd3 : decide (y.score < x.score) = false := decide_eq_false hd2
          have hi8 : (i' : Int) + 1 < (m : Int) := by omega
          have hi9 : (0 : Int) ≤ (i' : Int) + 1 := by omega
          have hi7 : (i' : Int) < (m : Int) := by omega
          have hi6 : (0 : Int) ≤ (i' : Int) := by omega
          have hi5 : ((i' : Int) + 1).toNat = i' + 1 := by omega
          have hi4 : ((i' : Int) + 1 - 1) = (i' : Int) := by omega
          clear hc2 hx hy
          go_wp2_with fail
          go_quiet (fail)
          go_wp2_with fail
          go_roundw
          case rel => exact ⟨i' + 1 + 1, d + nq, by omega, by go_num, by first | rfl | simp⟩
          case measure => simp [intOf]; omega
      · have hfe : ∀ x : Ch, eqB ⟨x.item, x.maker, x.tags, x.score⟩ ⟨x.item, x.maker, x.tags, x.score⟩ = true := fun x => (eqB_iff x x).2 rfl
        have HFE := Lib.hid hfe
        clear hfe
        rcases Nat.eq_zero_or_pos N with hN0 | hN0
        · have hn1 : decide (0 < N) = false := decide_eq_false (by omega)
          have hn2 : decide ((0 : Int) < (N : Int)) = false := decide_eq_false (by omega)
          have HN0 := Lib.hid hN0
          clear hN0
          go_wp2_with fail
          go_quiet (fail)
          go_wp2_with fail
          go_loopw [70] (fun iv wr => ∃ (i : Nat), i ≤ N ∧ iv = .int .i64 i ∧ Hid (Below w3.heap.size w3 wr)) (fun iv _ => N - (intOf iv).toNat)
          case atStart => exact ⟨0, Nat.zero_le _, rfl, Lib.hid (below_drewN (Below.refl _ _) _)⟩
          case round =>
            obtain ⟨i, hi, rfl, hbw⟩ := hrel
            obtain ⟨wo, rfl⟩ : ∃ wo : World, wo = wr := ⟨_, rfl⟩
            by_cases hil : i < N
            · obtain ⟨x, hx⟩ : ∃ x, R[i]? = some x := ⟨R[i]'(by rw [HN.out]; exact hil), List.getElem?_eq_getElem _⟩
              have hxo := HOR.out x (List.mem_of_getElem? hx)
              have HXM := Lib.hid (List.mem_of_getElem? hx)
              obtain ⟨g3, hA3, hg31, hg32, hc3⟩ := HO3.out (by omega)
              have HC3' := Lib.hid hc3
              obtain ⟨e0, e1, e2, e3⟩ : ChAt wo g3 (i * 4) x := (hc3 i x hx).keep (fun j => hbw.out.cell (p := ⟨g3, j, none⟩) hg32)
              have hi8 : (i : Int) < (N : Int) := by omega
              have hi9 : (0 : Int) ≤ (i : Int) := by omega
              obtain ⟨w5, hw5⟩ : ∃ w5, wo.alloc (.cells #[.string x.item, .string x.maker, .string x.tags, .int .i64 x.score] 32) = w5 := ⟨_, rfl⟩
              have bx : Blk w5 wo.heap.size 32 #[.string x.item, .string x.maker, .string x.tags, .int .i64 x.score] := by rw [← hw5]; exact Blk.new _ _ _
              have HB5 : Hid (Below w3.heap.size w3 w5) := Lib.hid (by rw [← hw5]; exact hbw.out.alloc hbw.out.size _)
              have HXC : Hid (ChAt w5 wo.heap.size 0 x) := Lib.hid ⟨bx.cell 0, bx.cell 1, bx.cell 2, bx.cell 3⟩
              have zx := bx.lt
              (first | subst hA3 | (injection hA3 with hA3; injection hA3 with hA3; subst hA3))
              clear hc3 hx bx
              go_wp2_with fail
              clear hw5 e0 e1 e2 e3
              go_loopw [10, 76] (fun av kv wk => ∃ (k : Nat) (bb : Bool), k ≤ N ∧ kv = .int .i64 k ∧ av = .bool bb ∧ Hid (bb = true ↔ ∀ k' y, k' < k → R[k']? = some y → okA x y = true) ∧ Hid (Below w5.heap.size w5 wk)) (fun _ kv _ => N - (intOf kv).toNat)
              case atStart => exact ⟨0, true, Nat.zero_le _, rfl, rfl, Lib.hid (by simp), Lib.hid (Below.refl _ _)⟩
              case round =>
                obtain ⟨k, bb, hk, rfl, rfl, hbb, hbk⟩ := hrel
                have HB6 : Hid (Below w3.heap.size w3 wr) := Lib.hid (HB5.out.trans (hbk.out.mono HB5.out.size))
                by_cases hkl : k < N
                · obtain ⟨y, hy⟩ : ∃ y, R[k]? = some y := ⟨R[k]'(by rw [HN.out]; exact hkl), List.getElem?_eq_getElem _⟩
                  obtain ⟨f0, f1, f2, f3⟩ : ChAt wr g3 (k * 4) y := (HC3'.out k y hy).keep (fun j => HB6.out.cell (p := ⟨g3, j, none⟩) hg32)
                  have hk8 : (k : Int) < (N : Int) := by omega
                  have hk9 : (0 : Int) ≤ (k : Int) := by omega
                  obtain ⟨w7, hw7⟩ : ∃ w7, wr.alloc (.cells #[.string y.item, .string y.maker, .string y.tags, .int .i64 y.score] 32) = w7 := ⟨_, rfl⟩
                  have by7 : Blk w7 wr.heap.size 32 #[.string y.item, .string y.maker, .string y.tags, .int .i64 y.score] := by rw [← hw7]; exact Blk.new _ _ _
                  have HB7 : Hid (Below w5.heap.size w5 w7) := Lib.hid (by rw [← hw7]; exact hbk.out.alloc hbk.out.size _)
                  obtain ⟨d0, d1, d2, d3⟩ : ChAt w7 wo.heap.size 0 x := HXC.out.keep (fun j => HB7.out.cell (p := ⟨wo.heap.size, j, none⟩) zx)
                  have g0 : w7.cell? ⟨wr.heap.size, 0, none⟩ = some (.string y.item) := by7.cell 0
                  have g1 : w7.cell? ⟨wr.heap.size, 1, none⟩ = some (.string y.maker) := by7.cell 1
                  have g2' : w7.cell? ⟨wr.heap.size, 2, none⟩ = some (.string y.tags) := by7.cell 2
                  have g3' : w7.cell? ⟨wr.heap.size, 3, none⟩ = some (.int .i64 y.score) := by7.cell 3
                  simp only [Nat.zero_add] at d0 d1 d2 d3
                  have HSTEP : Hid (∀ b : Bool, bb = true → okA x y = b → (b = true ↔ ∀ k' z, k' < k + 1 → R[k']? = some z → okA x z = true)) := Lib.hid (fun b hbt hb => by
                    have h0 := hbb.out.1 hbt
                    constructor
                    · intro h1 k' z hk' hz
                      by_cases e : k' = k
                      · subst e
                        rw [hy] at hz
                        cases hz
                        rw [hb, h1]
                      · exact h0 k' z (by omega) hz
                    · intro h1
                      rw [← hb]
                      exact h1 k y (by omega) hy)
                  have HSTAY : Hid (bb = false → (false = true ↔ ∀ k' z, k' < k + 1 → R[k']? = some z → okA x z = true)) := Lib.hid (fun hbf => ⟨fun h => (by cases h), fun h => by
                    have := hbb.out.2 (fun k' z hk' hz => h k' z (by omega) hz)
                    rw [hbf] at this
                    cases this⟩)
                  clear hy by7
                  cases bb
                  · have HS := Lib.hid (HSTAY.out rfl)
                    clear HSTEP HSTAY
                    go_wp2_with fail
                    go_roundw
                    case rel => exact ⟨k + 1, false, by omega, by go_num, rfl, HS, HB7⟩
                    case measure => simp [intOf]; omega
                  · cases h1 : eqB x y
                    · have h1' : eqB ⟨x.item, x.maker, x.tags, x.score⟩ ⟨y.item, y.maker, y.tags, y.score⟩ = false := h1
                      cases h2 : (!(x.maker.toList == y.maker.toList))
                      · cases h3 : x.maker.toList.isEmpty
                        · have HS := Lib.hid (HSTEP.out false rfl (by unfold okA; rw [h1, h2, h3]; rfl))
                          have h3' : (x.maker.toList == []) = false := by rw [← h3]; cases x.maker.toList <;> rfl
                          clear HSTEP HSTAY
                          go_wp2_with fail
                          go_roundw
                          case rel => exact ⟨k + 1, false, by omega, by go_num, rfl, HS, HB7⟩
                          case measure => simp [intOf]; omega
                        · have HS := Lib.hid (HSTEP.out true rfl (by unfold okA; rw [h1, h2, h3]; rfl))
                          have h3' : (x.maker.toList == []) = true := by rw [← h3]; cases x.maker.toList <;> rfl
                          clear HSTEP HSTAY
                          go_wp2_with fail
                          go_roundw
                          case rel => exact ⟨k + 1, true, by omega, by go_num, rfl, HS, HB7⟩
                          case measure => simp [intOf]; omega
                      · have HS := Lib.hid (HSTEP.out true rfl (by unfold okA; rw [h1, h2]; rfl))
                        clear HSTEP HSTAY
                        go_wp2_with fail
                        go_roundw
                        case rel => exact ⟨k + 1, true, by omega, by go_num, rfl, HS, HB7⟩
                        case measure => simp [intOf]; omega
                    · have h1' : eqB ⟨x.item, x.maker, x.tags, x.score⟩ ⟨y.item, y.maker, y.tags, y.score⟩ = true := h1
                      have HS := Lib.hid (HSTEP.out true rfl (by unfold okA; rw [h1]; rfl))
                      clear HSTEP HSTAY
                      go_wp2_with fail
                      go_roundw
                      case rel => exact ⟨k + 1, true, by omega, by go_num, rfl, HS, HB7⟩
                      case measure => simp [intOf]; omega
                · obtain rfl : N = k := by omega
                  obtain ⟨wq, rfl⟩ : ∃ wq : World, wq = wr := ⟨_, rfl⟩
                  go_wp2_with fail
                  go_loopw [11, 101] (fun sv jv wk => ∃ (j : Nat) (is : Bool), j ≤ m ∧ jv = .int .i64 j ∧ sv = .bool is ∧ Hid (is = true ↔ ∃ k' : Nat, k' < j ∧ S[k']? = some x) ∧ Hid (Below wq.heap.size wq wk)) (fun _ jv _ => m - (intOf jv).toNat)
                  case atStart => exact ⟨0, false, Nat.zero_le _, rfl, rfl, Lib.hid (by simp), Lib.hid (Below.refl _ _)⟩
                  case round =>
                    obtain ⟨j, is, hj, rfl, rfl, his, hbj⟩ := hrel
                    have HB8 : Hid (Below w3.heap.size w3 wr) := Lib.hid (HB6.out.trans (hbj.out.mono HB6.out.size))
                    have HB9 : Hid (Below w5.heap.size w5 wr) := Lib.hid (hbk.out.trans (hbj.out.mono hbk.out.size))
                    by_cases hjl : j < m
                    · obtain ⟨y, hy⟩ : ∃ y, S[j]? = some y := ⟨S[j]'(by rw [HMM.out]; exact hjl), List.getElem?_eq_getElem _⟩
                      obtain ⟨g2, hA2, hg21, hg22, hc2⟩ := HS3.out (by omega)
                      obtain ⟨f0, f1, f2, f3⟩ : ChAt wr g2 (j * 4) y := (hc2 j y hy).keep (fun j => HB8.out.cell (p := ⟨g2, j, none⟩) hg22)
                      have hj8 : (j : Int) < (m : Int) := by omega
                      have hj9 : (0 : Int) ≤ (j : Int) := by omega
                      obtain ⟨w7, hw7⟩ : ∃ w7, wr.alloc (.cells #[.string y.item, .string y.maker, .string y.tags, .int .i64 y.score] 32) = w7 := ⟨_, rfl⟩
                      have by7 : Blk w7 wr.heap.size 32 #[.string y.item, .string y.maker, .string y.tags, .int .i64 y.score] := by rw [← hw7]; exact Blk.new _ _ _
                      have HB7 : Hid (Below wq.heap.size wq w7) := Lib.hid (by rw [← hw7]; exact hbj.out.alloc hbj.out.size _)
                      obtain ⟨d0, d1, d2, d3⟩ : ChAt w7 wo.heap.size 0 x := HXC.out.keep (fun j => (hbk.out.trans (HB7.out.mono hbk.out.size)).cell (p := ⟨wo.heap.size, j, none⟩) zx)
                      have g0 : w7.cell? ⟨wr.heap.size, 0, none⟩ = some (.string y.item) := by7.cell 0
                      have g1 : w7.cell? ⟨wr.heap.size, 1, none⟩ = some (.string y.maker) := by7.cell 1
                      have g2' : w7.cell? ⟨wr.heap.size, 2, none⟩ = some (.string y.tags) := by7.cell 2
                      have g3' : w7.cell? ⟨wr.heap.size, 3, none⟩ = some (.int .i64 y.score) := by7.cell 3
                      simp only [Nat.zero_add] at d0 d1 d2 d3
                      have HY := Lib.hid hy
                      (first | subst hA2 | (injection hA2 with hA2; injection hA2 with hA2; subst hA2))
                      clear hy by7 hc2
                      cases is
                      · have HIS : Hid (∀ b : Bool, eqB x y = b → (b = true ↔ ∃ k' : Nat, k' < j + 1 ∧ S[k']? = some x)) := Lib.hid (fun b hb => by
                          constructor
                          · intro h1
                            rw [h1] at hb
                            exact ⟨j, by omega, by rw [HY.out, (eqB_iff x y).1 hb]⟩
                          · rintro ⟨k', hk', hs⟩
                            by_cases e : k' = j
                            · subst e
                              rw [HY.out] at hs
                              cases hs
                              rw [← hb, eqB_iff]
                            · have := his.out.2 ⟨k', by omega, hs⟩
                              cases this)
                        cases h1 : eqB x y
                        · have h1' : eqB ⟨x.item, x.maker, x.tags, x.score⟩ ⟨y.item, y.maker, y.tags, y.score⟩ = false := h1
                          have HS := Lib.hid (HIS.out _ h1)
                          clear HIS
                          go_wp2_with fail
                          go_roundw
                          case rel => exact ⟨j + 1, false, by omega, by go_num, rfl, HS, HB7⟩
                          case measure => simp [intOf]; omega
                        · have h1' : eqB ⟨x.item, x.maker, x.tags, x.score⟩ ⟨y.item, y.maker, y.tags, y.score⟩ = true := h1
                          have HS := Lib.hid (HIS.out _ h1)
                          clear HIS
                          go_wp2_with fail
                          go_roundw
                          case rel => exact ⟨j + 1, true, by omega, by go_num, rfl, HS, HB7⟩
                          case measure => simp [intOf]; omega
                      · have HS : Hid (true = true ↔ ∃ k' : Nat, k' < j + 1 ∧ S[k']? = some x) := Lib.hid ⟨fun _ => by
                          obtain ⟨k', h1, h2⟩ := his.out.1 rfl
                          exact ⟨k', by omega, h2⟩, fun _ => rfl⟩
                        go_wp2_with fail
                        go_roundw
                        case rel => exact ⟨j + 1, true, by omega, by go_num, rfl, HS, HB7⟩
                        case measure => simp [intOf]; omega
                    · obtain rfl : m = j := by omega
                      obtain ⟨d0, d1, d2, d3⟩ : ChAt wr wo.heap.size 0 x := HXC.out.keep (fun j => HB9.out.cell (p := ⟨wo.heap.size, j, none⟩) zx)
                      simp only [Nat.zero_add] at d0 d1 d2 d3
                      have HTG := Lib.hid (tags_any x.tags wr hxo.2.2)
                      have HEND : Hid (bb = true → tagsP x.tags = [] → is = false → ¬ (m : Int) < cp.size) := Lib.hid (fun h1 h2 h3 h4 => by
                        have hall := hbb.out.1 h1
                        have hin := HAL.out x HXM.out h2 (fun y hy => by
                          obtain ⟨k', hk'⟩ := List.mem_iff_getElem?.1 hy
                          exact (okA_iff x y).1 (hall k' y (by have := (List.getElem?_eq_some_iff.1 hk').1; rw [HN.out] at this; omega) hk')) h4
                        obtain ⟨k', hk'⟩ := List.mem_iff_getElem?.1 hin
                        have := his.out.2 ⟨k', (by have := (List.getElem?_eq_some_iff.1 hk').1; rw [HMM.out] at this; omega), hk'⟩
                        rw [h3] at this
                        cases this)
                      cases bb
                      · clear HTG
                        go_wp2_with fail
                        go_roundw
                        case rel => exact ⟨i + 1, by omega, by go_num, HB8⟩
                        case measure => simp [intOf]; omega
                      · go_wp2_with fail
                        refine HTG.out.mono ?_
                        rintro e w9 ⟨v9, rfl, hown9, hb9⟩
                        obtain ⟨A9, c9, rfl⟩ := own_shape hown9
                        have HB10 : Hid (Below w3.heap.size w3 w9) := Lib.hid (HB8.out.trans (hb9.mono HB8.out.size))
                        have q9 : w9.cell? ⟨w.heap.size, 0, none⟩ = some (.int .i64 cp.size) := (HB10.out.cell (p := ⟨w.heap.size, 0, none⟩) zc3).trans q0
                        have HTL : Hid ((tagsP x.tags).length = 0 → tagsP x.tags = []) := Lib.hid (fun h => List.eq_nil_of_length_eq_zero h)
                        clear HTG hown9 hb9 d0 d1 d2 d3
                        rcases Nat.eq_zero_or_pos (tagsP x.tags).length with ht | ht
                        · have hte := HTL.out ht
                          rw [ht]
                          clear ht
                          cases is
                          · have hlt : decide ((m : Int) < cp.size) = false := decide_eq_false (by have h9 := HEND.out; first | exact h9 rfl hte rfl | (simpa [hte] using h9))
                            clear hte
                            go_wp2_with fail
                            go_roundw
                            case rel => exact ⟨i + 1, by omega, by go_num, HB10⟩
                            case measure => simp [intOf]; omega
                          · clear hte
                            go_wp2_with fail
                            go_roundw
                            case rel => exact ⟨i + 1, by omega, by go_num, HB10⟩
                            case measure => simp [intOf]; omega
                        · generalize (tagsP x.tags).length = tl at *
                          have ht1 : ((tl : Int) == 0) = false := by simp; omega
                          have ht2 : (tl == 0) = false := by simp; omega
                          go_wp2_with fail
                          go_roundw
                          case rel => exact ⟨i + 1, by omega, by go_num, HB10⟩
                          case measure => simp [intOf]; omega
            · have HBE : Hid (Below w.heap.size w wo) := Lib.hid (HB3.out.trans (hbw.out.mono HB3.out.size))
              have HW := Lib.hid (awake_any wo (HG.out.keep HBE.out (Nat.le_refl _)))
              go_wp2_with fail
              refine HW.out.mono ?_
              rintro e w5 ⟨rfl, hb5⟩
              have HB5 : Hid (Below w.heap.size w w5) := Lib.hid (HBE.out.trans (hb5.mono HBE.out.size))
              clear hb5 HW
              go_wp2_with fail
              go_ret
              exact ⟨rfl, HB5.out⟩
        · have hn1 : decide (0 < N) = true := decide_eq_true hN0
          have hn2 : decide ((0 : Int) < (N : Int)) = true := by simpa using hN0
          have hn3 : (0 : Int) < (N : Int) := by omega
          by_cases hcs : 0 < cp.size
          · have hc1 : decide (0 < cp.size) = true := decide_eq_true hcs
            obtain ⟨x, hx⟩ : ∃ x, R[0]? = some x := ⟨R[0]'(by rw [HN.out]; exact hN0), List.getElem?_eq_getElem _⟩
            have hy := HFI.out x hx hcs
            have hm0 : 0 < m := by rw [← HMM.out]; exact (List.getElem?_eq_some_iff.1 hy).1
            have hm1 : ((m : Int) == 0) = false := by simp; omega
            have hm2 : (m == 0) = false := by simp; omega
            have hm3 : (0 : Int) < (m : Int) := by omega
            obtain ⟨g2, hA2, hg21, hg22, hc2⟩ := HS3.out hm0
            obtain ⟨g3, hA3, hg31, hg32, hc3⟩ := HO3.out hN0
            obtain ⟨e0, e1, e2, e3⟩ := hc2 0 x hy
            obtain ⟨f0, f1, f2, f3⟩ := hc3 0 x hx
            simp only [Nat.zero_mul, Nat.zero_add] at e0 e1 e2 e3 f0 f1 f2 f3
            have hxx := HFE.out x
            have hxx2 : eqB x x = true := (eqB_iff x x).2 rfl
            subst hA2 hA3
            clear hc2 hc3 hx hy
            go_wp2_with fail
            go_quiet (fail)
            clear e0 e1 e2 e3 f0 f1 f2 f3 hxx hxx2 hm1 hm2 hm3 hc1
            go_wp2_with fail
            go_loopw [70] (fun iv wr => ∃ (i : Nat), i ≤ N ∧ iv = .int .i64 i ∧ Hid (Below w3.heap.size w3 wr)) (fun iv _ => N - (intOf iv).toNat)
            case atStart => exact ⟨0, Nat.zero_le _, rfl, Lib.hid (below_drewN (Below.refl _ _) _)⟩
            case round =>
              obtain ⟨i, hi, rfl, hbw⟩ := hrel
              obtain ⟨wo, rfl⟩ : ∃ wo : World, wo = wr := ⟨_, rfl⟩
              by_cases hil : i < N
              · obtain ⟨x, hx⟩ : ∃ x, R[i]? = some x := ⟨R[i]'(by rw [HN.out]; exact hil), List.getElem?_eq_getElem _⟩
                have hxo := HOR.out x (List.mem_of_getElem? hx)
                have HXM := Lib.hid (List.mem_of_getElem? hx)
                obtain ⟨g3, hA3, hg31, hg32, hc3⟩ := HO3.out (by omega)
                have HC3' := Lib.hid hc3
                obtain ⟨e0, e1, e2, e3⟩ : ChAt wo g3 (i * 4) x := (hc3 i x hx).keep (fun j => hbw.out.cell (p := ⟨g3, j, none⟩) hg32)
                have hi8 : (i : Int) < (N : Int) := by omega
                have hi9 : (0 : Int) ≤ (i : Int) := by omega
                obtain ⟨w5, hw5⟩ : ∃ w5, wo.alloc (.cells #[.string x.item, .string x.maker, .string x.tags, .int .i64 x.score] 32) = w5 := ⟨_, rfl⟩
                have bx : Blk w5 wo.heap.size 32 #[.string x.item, .string x.maker, .string x.tags, .int .i64 x.score] := by rw [← hw5]; exact Blk.new _ _ _
                have HB5 : Hid (Below w3.heap.size w3 w5) := Lib.hid (by rw [← hw5]; exact hbw.out.alloc hbw.out.size _)
                have HXC : Hid (ChAt w5 wo.heap.size 0 x) := Lib.hid ⟨bx.cell 0, bx.cell 1, bx.cell 2, bx.cell 3⟩
                have zx := bx.lt
                (first | subst hA3 | (injection hA3 with hA3; injection hA3 with hA3; subst hA3))
                clear hc3 hx bx
                go_wp2_with fail
                clear hw5 e0 e1 e2 e3
                go_loopw [10, 76] (fun av kv wk => ∃ (k : Nat) (bb : Bool), k ≤ N ∧ kv = .int .i64 k ∧ av = .bool bb ∧ Hid (bb = true ↔ ∀ k' y, k' < k → R[k']? = some y → okA x y = true) ∧ Hid (Below w5.heap.size w5 wk)) (fun _ kv _ => N - (intOf kv).toNat)
                case atStart => exact ⟨0, true, Nat.zero_le _, rfl, rfl, Lib.hid (by simp), Lib.hid (Below.refl _ _)⟩
                case round =>
                  obtain ⟨k, bb, hk, rfl, rfl, hbb, hbk⟩ := hrel
                  have HB6 : Hid (Below w3.heap.size w3 wr) := Lib.hid (HB5.out.trans (hbk.out.mono HB5.out.size))
                  by_cases hkl : k < N
                  · obtain ⟨y, hy⟩ : ∃ y, R[k]? = some y := ⟨R[k]'(by rw [HN.out]; exact hkl), List.getElem?_eq_getElem _⟩
                    obtain ⟨f0, f1, f2, f3⟩ : ChAt wr g3 (k * 4) y := (HC3'.out k y hy).keep (fun j => HB6.out.cell (p := ⟨g3, j, none⟩) hg32)
                    have hk8 : (k : Int) < (N : Int) := by omega
                    have hk9 : (0 : Int) ≤ (k : Int) := by omega
                    obtain ⟨w7, hw7⟩ : ∃ w7, wr.alloc (.cells #[.string y.item, .string y.maker, .string y.tags, .int .i64 y.score] 32) = w7 := ⟨_, rfl⟩
                    have by7 : Blk w7 wr.heap.size 32 #[.string y.item, .string y.maker, .string y.tags, .int .i64 y.score] := by rw [← hw7]; exact Blk.new _ _ _
                    have HB7 : Hid (Below w5.heap.size w5 w7) := Lib.hid (by rw [← hw7]; exact hbk.out.alloc hbk.out.size _)
                    obtain ⟨d0, d1, d2, d3⟩ : ChAt w7 wo.heap.size 0 x := HXC.out.keep (fun j => HB7.out.cell (p := ⟨wo.heap.size, j, none⟩) zx)
                    have g0 : w7.cell? ⟨wr.heap.size, 0, none⟩ = some (.string y.item) := by7.cell 0
                    have g1 : w7.cell? ⟨wr.heap.size, 1, none⟩ = some (.string y.maker) := by7.cell 1
                    have g2' : w7.cell? ⟨wr.heap.size, 2, none⟩ = some (.string y.tags) := by7.cell 2
                    have g3' : w7.cell? ⟨wr.heap.size, 3, none⟩ = some (.int .i64 y.score) := by7.cell 3
                    simp only [Nat.zero_add] at d0 d1 d2 d3
                    have HSTEP : Hid (∀ b : Bool, bb = true → okA x y = b → (b = true ↔ ∀ k' z, k' < k + 1 → R[k']? = some z → okA x z = true)) := Lib.hid (fun b hbt hb => by
                      have h0 := hbb.out.1 hbt
                      constructor
                      · intro h1 k' z hk' hz
                        by_cases e : k' = k
                        · subst e
                          rw [hy] at hz
                          cases hz
                          rw [hb, h1]
                        · exact h0 k' z (by omega) hz
                      · intro h1
                        rw [← hb]
                        exact h1 k y (by omega) hy)
                    have HSTAY : Hid (bb = false → (false = true ↔ ∀ k' z, k' < k + 1 → R[k']? = some z → okA x z = true)) := Lib.hid (fun hbf => ⟨fun h => (by cases h), fun h => by
                      have := hbb.out.2 (fun k' z hk' hz => h k' z (by omega) hz)
                      rw [hbf] at this
                      cases this⟩)
                    clear hy by7
                    cases bb
                    · have HS := Lib.hid (HSTAY.out rfl)
                      clear HSTEP HSTAY
                      go_wp2_with fail
                      go_roundw
                      case rel => exact ⟨k + 1, false, by omega, by go_num, rfl, HS, HB7⟩
                      case measure => simp [intOf]; omega
                    · cases h1 : eqB x y
                      · have h1' : eqB ⟨x.item, x.maker, x.tags, x.score⟩ ⟨y.item, y.maker, y.tags, y.score⟩ = false := h1
                        cases h2 : (!(x.maker.toList == y.maker.toList))
                        · cases h3 : x.maker.toList.isEmpty
                          · have HS := Lib.hid (HSTEP.out false rfl (by unfold okA; rw [h1, h2, h3]; rfl))
                            have h3' : (x.maker.toList == []) = false := by rw [← h3]; cases x.maker.toList <;> rfl
                            clear HSTEP HSTAY
                            go_wp2_with fail
                            go_roundw
                            case rel => exact ⟨k + 1, false, by omega, by go_num, rfl, HS, HB7⟩
                            case measure => simp [intOf]; omega
                          · have HS := Lib.hid (HSTEP.out true rfl (by unfold okA; rw [h1, h2, h3]; rfl))
                            have h3' : (x.maker.toList == []) = true := by rw [← h3]; cases x.maker.toList <;> rfl
                            clear HSTEP HSTAY
                            go_wp2_with fail
                            go_roundw
                            case rel => exact ⟨k + 1, true, by omega, by go_num, rfl, HS, HB7⟩
                            case measure => simp [intOf]; omega
                        · have HS := Lib.hid (HSTEP.out true rfl (by unfold okA; rw [h1, h2]; rfl))
                          clear HSTEP HSTAY
                          go_wp2_with fail
                          go_roundw
                          case rel => exact ⟨k + 1, true, by omega, by go_num, rfl, HS, HB7⟩
                          case measure => simp [intOf]; omega
                      · have h1' : eqB ⟨x.item, x.maker, x.tags, x.score⟩ ⟨y.item, y.maker, y.tags, y.score⟩ = true := h1
                        have HS := Lib.hid (HSTEP.out true rfl (by unfold okA; rw [h1]; rfl))
                        clear HSTEP HSTAY
                        go_wp2_with fail
                        go_roundw
                        case rel => exact ⟨k + 1, true, by omega, by go_num, rfl, HS, HB7⟩
                        case measure => simp [intOf]; omega
                  · obtain rfl : N = k := by omega
                    obtain ⟨wq, rfl⟩ : ∃ wq : World, wq = wr := ⟨_, rfl⟩
                    go_wp2_with fail
                    go_loopw [11, 101] (fun sv jv wk => ∃ (j : Nat) (is : Bool), j ≤ m ∧ jv = .int .i64 j ∧ sv = .bool is ∧ Hid (is = true ↔ ∃ k' : Nat, k' < j ∧ S[k']? = some x) ∧ Hid (Below wq.heap.size wq wk)) (fun _ jv _ => m - (intOf jv).toNat)
                    case atStart => exact ⟨0, false, Nat.zero_le _, rfl, rfl, Lib.hid (by simp), Lib.hid (Below.refl _ _)⟩
                    case round =>
                      obtain ⟨j, is, hj, rfl, rfl, his, hbj⟩ := hrel
                      have HB8 : Hid (Below w3.heap.size w3 wr) := Lib.hid (HB6.out.trans (hbj.out.mono HB6.out.size))
                      have HB9 : Hid (Below w5.heap.size w5 wr) := Lib.hid (hbk.out.trans (hbj.out.mono hbk.out.size))
                      by_cases hjl : j < m
                      · obtain ⟨y, hy⟩ : ∃ y, S[j]? = some y := ⟨S[j]'(by rw [HMM.out]; exact hjl), List.getElem?_eq_getElem _⟩
                        obtain ⟨g2, hA2, hg21, hg22, hc2⟩ := HS3.out (by omega)
                        obtain ⟨f0, f1, f2, f3⟩ : ChAt wr g2 (j * 4) y := (hc2 j y hy).keep (fun j => HB8.out.cell (p := ⟨g2, j, none⟩) hg22)
                        have hj8 : (j : Int) < (m : Int) := by omega
                        have hj9 : (0 : Int) ≤ (j : Int) := by omega
                        obtain ⟨w7, hw7⟩ : ∃ w7, wr.alloc (.cells #[.string y.item, .string y.maker, .string y.tags, .int .i64 y.score] 32) = w7 := ⟨_, rfl⟩
                        have by7 : Blk w7 wr.heap.size 32 #[.string y.item, .string y.maker, .string y.tags, .int .i64 y.score] := by rw [← hw7]; exact Blk.new _ _ _
                        have HB7 : Hid (Below wq.heap.size wq w7) := Lib.hid (by rw [← hw7]; exact hbj.out.alloc hbj.out.size _)
                        obtain ⟨d0, d1, d2, d3⟩ : ChAt w7 wo.heap.size 0 x := HXC.out.keep (fun j => (hbk.out.trans (HB7.out.mono hbk.out.size)).cell (p := ⟨wo.heap.size, j, none⟩) zx)
                        have g0 : w7.cell? ⟨wr.heap.size, 0, none⟩ = some (.string y.item) := by7.cell 0
                        have g1 : w7.cell? ⟨wr.heap.size, 1, none⟩ = some (.string y.maker) := by7.cell 1
                        have g2' : w7.cell? ⟨wr.heap.size, 2, none⟩ = some (.string y.tags) := by7.cell 2
                        have g3' : w7.cell? ⟨wr.heap.size, 3, none⟩ = some (.int .i64 y.score) := by7.cell 3
                        simp only [Nat.zero_add] at d0 d1 d2 d3
                        have HY := Lib.hid hy
                        (first | subst hA2 | (injection hA2 with hA2; injection hA2 with hA2; subst hA2))
                        clear hy by7 hc2
                        cases is
                        · have HIS : Hid (∀ b : Bool, eqB x y = b → (b = true ↔ ∃ k' : Nat, k' < j + 1 ∧ S[k']? = some x)) := Lib.hid (fun b hb => by
                            constructor
                            · intro h1
                              rw [h1] at hb
                              exact ⟨j, by omega, by rw [HY.out, (eqB_iff x y).1 hb]⟩
                            · rintro ⟨k', hk', hs⟩
                              by_cases e : k' = j
                              · subst e
                                rw [HY.out] at hs
                                cases hs
                                rw [← hb, eqB_iff]
                              · have := his.out.2 ⟨k', by omega, hs⟩
                                cases this)
                          cases h1 : eqB x y
                          · have h1' : eqB ⟨x.item, x.maker, x.tags, x.score⟩ ⟨y.item, y.maker, y.tags, y.score⟩ = false := h1
                            have HS := Lib.hid (HIS.out _ h1)
                            clear HIS
                            go_wp2_with fail
                            go_roundw
                            case rel => exact ⟨j + 1, false, by omega, by go_num, rfl, HS, HB7⟩
                            case measure => simp [intOf]; omega
                          · have h1' : eqB ⟨x.item, x.maker, x.tags, x.score⟩ ⟨y.item, y.maker, y.tags, y.score⟩ = true := h1
                            have HS := Lib.hid (HIS.out _ h1)
                            clear HIS
                            go_wp2_with fail
                            go_roundw
                            case rel => exact ⟨j + 1, true, by omega, by go_num, rfl, HS, HB7⟩
                            case measure => simp [intOf]; omega
                        · have HS : Hid (true = true ↔ ∃ k' : Nat, k' < j + 1 ∧ S[k']? = some x) := Lib.hid ⟨fun _ => by
                            obtain ⟨k', h1, h2⟩ := his.out.1 rfl
                            exact ⟨k', by omega, h2⟩, fun _ => rfl⟩
                          go_wp2_with fail
                          go_roundw
                          case rel => exact ⟨j + 1, true, by omega, by go_num, rfl, HS, HB7⟩
                          case measure => simp [intOf]; omega
                      · obtain rfl : m = j := by omega
                        obtain ⟨d0, d1, d2, d3⟩ : ChAt wr wo.heap.size 0 x := HXC.out.keep (fun j => HB9.out.cell (p := ⟨wo.heap.size, j, none⟩) zx)
                        simp only [Nat.zero_add] at d0 d1 d2 d3
                        have HTG := Lib.hid (tags_any x.tags wr hxo.2.2)
                        have HEND : Hid (bb = true → tagsP x.tags = [] → is = false → ¬ (m : Int) < cp.size) := Lib.hid (fun h1 h2 h3 h4 => by
                          have hall := hbb.out.1 h1
                          have hin := HAL.out x HXM.out h2 (fun y hy => by
                            obtain ⟨k', hk'⟩ := List.mem_iff_getElem?.1 hy
                            exact (okA_iff x y).1 (hall k' y (by have := (List.getElem?_eq_some_iff.1 hk').1; rw [HN.out] at this; omega) hk')) h4
                          obtain ⟨k', hk'⟩ := List.mem_iff_getElem?.1 hin
                          have := his.out.2 ⟨k', (by have := (List.getElem?_eq_some_iff.1 hk').1; rw [HMM.out] at this; omega), hk'⟩
                          rw [h3] at this
                          cases this)
                        cases bb
                        · clear HTG
                          go_wp2_with fail
                          go_roundw
                          case rel => exact ⟨i + 1, by omega, by go_num, HB8⟩
                          case measure => simp [intOf]; omega
                        · go_wp2_with fail
                          refine HTG.out.mono ?_
                          rintro e w9 ⟨v9, rfl, hown9, hb9⟩
                          obtain ⟨A9, c9, rfl⟩ := own_shape hown9
                          have HB10 : Hid (Below w3.heap.size w3 w9) := Lib.hid (HB8.out.trans (hb9.mono HB8.out.size))
                          have q9 : w9.cell? ⟨w.heap.size, 0, none⟩ = some (.int .i64 cp.size) := (HB10.out.cell (p := ⟨w.heap.size, 0, none⟩) zc3).trans q0
                          have HTL : Hid ((tagsP x.tags).length = 0 → tagsP x.tags = []) := Lib.hid (fun h => List.eq_nil_of_length_eq_zero h)
                          clear HTG hown9 hb9 d0 d1 d2 d3
                          rcases Nat.eq_zero_or_pos (tagsP x.tags).length with ht | ht
                          · have hte := HTL.out ht
                            rw [ht]
                            clear ht
                            cases is
                            · have hlt : decide ((m : Int) < cp.size) = false := decide_eq_false (by have h9 := HEND.out; first | exact h9 rfl hte rfl | (simpa [hte] using h9))
                              clear hte
                              go_wp2_with fail
                              go_roundw
                              case rel => exact ⟨i + 1, by omega, by go_num, HB10⟩
                              case measure => simp [intOf]; omega
                            · clear hte
                              go_wp2_with fail
                              go_roundw
                              case rel => exact ⟨i + 1, by omega, by go_num, HB10⟩
                              case measure => simp [intOf]; omega
                          · generalize (tagsP x.tags).length = tl at *
                            have ht1 : ((tl : Int) == 0) = false := by simp; omega
                            have ht2 : (tl == 0) = false := by simp; omega
                            go_wp2_with fail
                            go_roundw
                            case rel => exact ⟨i + 1, by omega, by go_num, HB10⟩
                            case measure => simp [intOf]; omega
              · have HBE : Hid (Below w.heap.size w wo) := Lib.hid (HB3.out.trans (hbw.out.mono HB3.out.size))
                have HW := Lib.hid (awake_any wo (HG.out.keep HBE.out (Nat.le_refl _)))
                go_wp2_with fail
                refine HW.out.mono ?_
                rintro e w5 ⟨rfl, hb5⟩
                have HB5 : Hid (Below w.heap.size w w5) := Lib.hid (HBE.out.trans (hb5.mono HBE.out.size))
                clear hb5 HW
                go_wp2_with fail
                go_ret
                exact ⟨rfl, HB5.out⟩
          · have hc1 : decide (0 < cp.size) = false := decide_eq_false hcs
            go_wp2_with fail
            go_quiet (fail)
            clear hc1
            go_wp2_with fail
            go_loopw [70] (fun iv wr => ∃ (i : Nat), i ≤ N ∧ iv = .int .i64 i ∧ Hid (Below w3.heap.size w3 wr)) (fun iv _ => N - (intOf iv).toNat)
            case atStart => exact ⟨0, Nat.zero_le _, rfl, Lib.hid (below_drewN (Below.refl _ _) _)⟩
            case round =>
              obtain ⟨i, hi, rfl, hbw⟩ := hrel
              obtain ⟨wo, rfl⟩ : ∃ wo : World, wo = wr := ⟨_, rfl⟩
              by_cases hil : i < N
              · obtain ⟨x, hx⟩ : ∃ x, R[i]? = some x := ⟨R[i]'(by rw [HN.out]; exact hil), List.getElem?_eq_getElem _⟩
                have hxo := HOR.out x (List.mem_of_getElem? hx)
                have HXM := Lib.hid (List.mem_of_getElem? hx)
                obtain ⟨g3, hA3, hg31, hg32, hc3⟩ := HO3.out (by omega)
                have HC3' := Lib.hid hc3
                obtain ⟨e0, e1, e2, e3⟩ : ChAt wo g3 (i * 4) x := (hc3 i x hx).keep (fun j => hbw.out.cell (p := ⟨g3, j, none⟩) hg32)
                have hi8 : (i : Int) < (N : Int) := by omega
                have hi9 : (0 : Int) ≤ (i : Int) := by omega
                obtain ⟨w5, hw5⟩ : ∃ w5, wo.alloc (.cells #[.string x.item, .string x.maker, .string x.tags, .int .i64 x.score] 32) = w5 := ⟨_, rfl⟩
                have bx : Blk w5 wo.heap.size 32 #[.string x.item, .string x.maker, .string x.tags, .int .i64 x.score] := by rw [← hw5]; exact Blk.new _ _ _
                have HB5 : Hid (Below w3.heap.size w3 w5) := Lib.hid (by rw [← hw5]; exact hbw.out.alloc hbw.out.size _)
                have HXC : Hid (ChAt w5 wo.heap.size 0 x) := Lib.hid ⟨bx.cell 0, bx.cell 1, bx.cell 2, bx.cell 3⟩
                have zx := bx.lt
                (first | subst hA3 | (injection hA3 with hA3; injection hA3 with hA3; subst hA3))
                clear hc3 hx bx
                go_wp2_with fail
                clear hw5 e0 e1 e2 e3
                go_loopw [10, 76] (fun av kv wk => ∃ (k : Nat) (bb : Bool), k ≤ N ∧ kv = .int .i64 k ∧ av = .bool bb ∧ Hid (bb = true ↔ ∀ k' y, k' < k → R[k']? = some y → okA x y = true) ∧ Hid (Below w5.heap.size w5 wk)) (fun _ kv _ => N - (intOf kv).toNat)
                case atStart => exact ⟨0, true, Nat.zero_le _, rfl, rfl, Lib.hid (by simp), Lib.hid (Below.refl _ _)⟩
                case round =>
                  obtain ⟨k, bb, hk, rfl, rfl, hbb, hbk⟩ := hrel
                  have HB6 : Hid (Below w3.heap.size w3 wr) := Lib.hid (HB5.out.trans (hbk.out.mono HB5.out.size))
                  by_cases hkl : k < N
                  · obtain ⟨y, hy⟩ : ∃ y, R[k]? = some y := ⟨R[k]'(by rw [HN.out]; exact hkl), List.getElem?_eq_getElem _⟩
                    obtain ⟨f0, f1, f2, f3⟩ : ChAt wr g3 (k * 4) y := (HC3'.out k y hy).keep (fun j => HB6.out.cell (p := ⟨g3, j, none⟩) hg32)
                    have hk8 : (k : Int) < (N : Int) := by omega
                    have hk9 : (0 : Int) ≤ (k : Int) := by omega
                    obtain ⟨w7, hw7⟩ : ∃ w7, wr.alloc (.cells #[.string y.item, .string y.maker, .string y.tags, .int .i64 y.score] 32) = w7 := ⟨_, rfl⟩
                    have by7 : Blk w7 wr.heap.size 32 #[.string y.item, .string y.maker, .string y.tags, .int .i64 y.score] := by rw [← hw7]; exact Blk.new _ _ _
                    have HB7 : Hid (Below w5.heap.size w5 w7) := Lib.hid (by rw [← hw7]; exact hbk.out.alloc hbk.out.size _)
                    obtain ⟨d0, d1, d2, d3⟩ : ChAt w7 wo.heap.size 0 x := HXC.out.keep (fun j => HB7.out.cell (p := ⟨wo.heap.size, j, none⟩) zx)
                    have g0 : w7.cell? ⟨wr.heap.size, 0, none⟩ = some (.string y.item) := by7.cell 0
                    have g1 : w7.cell? ⟨wr.heap.size, 1, none⟩ = some (.string y.maker) := by7.cell 1
                    have g2' : w7.cell? ⟨wr.heap.size, 2, none⟩ = some (.string y.tags) := by7.cell 2
                    have g3' : w7.cell? ⟨wr.heap.size, 3, none⟩ = some (.int .i64 y.score) := by7.cell 3
                    simp only [Nat.zero_add] at d0 d1 d2 d3
                    have HSTEP : Hid (∀ b : Bool, bb = true → okA x y = b → (b = true ↔ ∀ k' z, k' < k + 1 → R[k']? = some z → okA x z = true)) := Lib.hid (fun b hbt hb => by
                      have h0 := hbb.out.1 hbt
                      constructor
                      · intro h1 k' z hk' hz
                        by_cases e : k' = k
                        · subst e
                          rw [hy] at hz
                          cases hz
                          rw [hb, h1]
                        · exact h0 k' z (by omega) hz
                      · intro h1
                        rw [← hb]
                        exact h1 k y (by omega) hy)
                    have HSTAY : Hid (bb = false → (false = true ↔ ∀ k' z, k' < k + 1 → R[k']? = some z → okA x z = true)) := Lib.hid (fun hbf => ⟨fun h => (by cases h), fun h => by
                      have := hbb.out.2 (fun k' z hk' hz => h k' z (by omega) hz)
                      rw [hbf] at this
                      cases this⟩)
                    clear hy by7
                    cases bb
                    · have HS := Lib.hid (HSTAY.out rfl)
                      clear HSTEP HSTAY
                      go_wp2_with fail
                      go_roundw
                      case rel => exact ⟨k + 1, false, by omega, by go_num, rfl, HS, HB7⟩
                      case measure => simp [intOf]; omega
                    · cases h1 : eqB x y
                      · have h1' : eqB ⟨x.item, x.maker, x.tags, x.score⟩ ⟨y.item, y.maker, y.tags, y.score⟩ = false := h1
                        cases h2 : (!(x.maker.toList == y.maker.toList))
                        · cases h3 : x.maker.toList.isEmpty
                          · have HS := Lib.hid (HSTEP.out false rfl (by unfold okA; rw [h1, h2, h3]; rfl))
                            have h3' : (x.maker.toList == []) = false := by rw [← h3]; cases x.maker.toList <;> rfl
                            clear HSTEP HSTAY
                            go_wp2_with fail
                            go_roundw
                            case rel => exact ⟨k + 1, false, by omega, by go_num, rfl, HS, HB7⟩
                            case measure => simp [intOf]; omega
                          · have HS := Lib.hid (HSTEP.out true rfl (by unfold okA; rw [h1, h2, h3]; rfl))
                            have h3' : (x.maker.toList == []) = true := by rw [← h3]; cases x.maker.toList <;> rfl
                            clear HSTEP HSTAY
                            go_wp2_with fail
                            go_roundw
                            case rel => exact ⟨k + 1, true, by omega, by go_num, rfl, HS, HB7⟩
                            case measure => simp [intOf]; omega
                        · have HS := Lib.hid (HSTEP.out true rfl (by unfold okA; rw [h1, h2]; rfl))
                          clear HSTEP HSTAY
                          go_wp2_with fail
                          go_roundw
                          case rel => exact ⟨k + 1, true, by omega, by go_num, rfl, HS, HB7⟩
                          case measure => simp [intOf]; omega
                      · have h1' : eqB ⟨x.item, x.maker, x.tags, x.score⟩ ⟨y.item, y.maker, y.tags, y.score⟩ = true := h1
                        have HS := Lib.hid (HSTEP.out true rfl (by unfold okA; rw [h1]; rfl))
                        clear HSTEP HSTAY
                        go_wp2_with fail
                        go_roundw
                        case rel => exact ⟨k + 1, true, by omega, by go_num, rfl, HS, HB7⟩
                        case measure => simp [intOf]; omega
                  · obtain rfl : N = k := by omega
                    obtain ⟨wq, rfl⟩ : ∃ wq : World, wq = wr := ⟨_, rfl⟩
                    go_wp2_with fail
                    go_loopw [11, 101] (fun sv jv wk => ∃ (j : Nat) (is : Bool), j ≤ m ∧ jv = .int .i64 j ∧ sv = .bool is ∧ Hid (is = true ↔ ∃ k' : Nat, k' < j ∧ S[k']? = some x) ∧ Hid (Below wq.heap.size wq wk)) (fun _ jv _ => m - (intOf jv).toNat)
                    case atStart => exact ⟨0, false, Nat.zero_le _, rfl, rfl, Lib.hid (by simp), Lib.hid (Below.refl _ _)⟩
                    case round =>
                      obtain ⟨j, is, hj, rfl, rfl, his, hbj⟩ := hrel
                      have HB8 : Hid (Below w3.heap.size w3 wr) := Lib.hid (HB6.out.trans (hbj.out.mono HB6.out.size))
                      have HB9 : Hid (Below w5.heap.size w5 wr) := Lib.hid (hbk.out.trans (hbj.out.mono hbk.out.size))
                      by_cases hjl : j < m
                      · obtain ⟨y, hy⟩ : ∃ y, S[j]? = some y := ⟨S[j]'(by rw [HMM.out]; exact hjl), List.getElem?_eq_getElem _⟩
                        obtain ⟨g2, hA2, hg21, hg22, hc2⟩ := HS3.out (by omega)
                        obtain ⟨f0, f1, f2, f3⟩ : ChAt wr g2 (j * 4) y := (hc2 j y hy).keep (fun j => HB8.out.cell (p := ⟨g2, j, none⟩) hg22)
                        have hj8 : (j : Int) < (m : Int) := by omega
                        have hj9 : (0 : Int) ≤ (j : Int) := by omega
                        obtain ⟨w7, hw7⟩ : ∃ w7, wr.alloc (.cells #[.string y.item, .string y.maker, .string y.tags, .int .i64 y.score] 32) = w7 := ⟨_, rfl⟩
                        have by7 : Blk w7 wr.heap.size 32 #[.string y.item, .string y.maker, .string y.tags, .int .i64 y.score] := by rw [← hw7]; exact Blk.new _ _ _
                        have HB7 : Hid (Below wq.heap.size wq w7) := Lib.hid (by rw [← hw7]; exact hbj.out.alloc hbj.out.size _)
                        obtain ⟨d0, d1, d2, d3⟩ : ChAt w7 wo.heap.size 0 x := HXC.out.keep (fun j => (hbk.out.trans (HB7.out.mono hbk.out.size)).cell (p := ⟨wo.heap.size, j, none⟩) zx)
                        have g0 : w7.cell? ⟨wr.heap.size, 0, none⟩ = some (.string y.item) := by7.cell 0
                        have g1 : w7.cell? ⟨wr.heap.size, 1, none⟩ = some (.string y.maker) := by7.cell 1
                        have g2' : w7.cell? ⟨wr.heap.size, 2, none⟩ = some (.string y.tags) := by7.cell 2
                        have g3' : w7.cell? ⟨wr.heap.size, 3, none⟩ = some (.int .i64 y.score) := by7.cell 3
                        simp only [Nat.zero_add] at d0 d1 d2 d3
                        have HY := Lib.hid hy
                        (first | subst hA2 | (injection hA2 with hA2; injection hA2 with hA2; subst hA2))
                        clear hy by7 hc2
                        cases is
                        · have HIS : Hid (∀ b : Bool, eqB x y = b → (b = true ↔ ∃ k' : Nat, k' < j + 1 ∧ S[k']? = some x)) := Lib.hid (fun b hb => by
                            constructor
                            · intro h1
                              rw [h1] at hb
                              exact ⟨j, by omega, by rw [HY.out, (eqB_iff x y).1 hb]⟩
                            · rintro ⟨k', hk', hs⟩
                              by_cases e : k' = j
                              · subst e
                                rw [HY.out] at hs
                                cases hs
                                rw [← hb, eqB_iff]
                              · have := his.out.2 ⟨k', by omega, hs⟩
                                cases this)
                          cases h1 : eqB x y
                          · have h1' : eqB ⟨x.item, x.maker, x.tags, x.score⟩ ⟨y.item, y.maker, y.tags, y.score⟩ = false := h1
                            have HS := Lib.hid (HIS.out _ h1)
                            clear HIS
                            go_wp2_with fail
                            go_roundw
                            case rel => exact ⟨j + 1, false, by omega, by go_num, rfl, HS, HB7⟩
                            case measure => simp [intOf]; omega
                          · have h1' : eqB ⟨x.item, x.maker, x.tags, x.score⟩ ⟨y.item, y.maker, y.tags, y.score⟩ = true := h1
                            have HS := Lib.hid (HIS.out _ h1)
                            clear HIS
                            go_wp2_with fail
                            go_roundw
                            case rel => exact ⟨j + 1, true, by omega, by go_num, rfl, HS, HB7⟩
                            case measure => simp [intOf]; omega
                        · have HS : Hid (true = true ↔ ∃ k' : Nat, k' < j + 1 ∧ S[k']? = some x) := Lib.hid ⟨fun _ => by
                            obtain ⟨k', h1, h2⟩ := his.out.1 rfl
                            exact ⟨k', by omega, h2⟩, fun _ => rfl⟩
                          go_wp2_with fail
                          go_roundw
                          case rel => exact ⟨j + 1, true, by omega, by go_num, rfl, HS, HB7⟩
                          case measure => simp [intOf]; omega
                      · obtain rfl : m = j := by omega
                        obtain ⟨d0, d1, d2, d3⟩ : ChAt wr wo.heap.size 0 x := HXC.out.keep (fun j => HB9.out.cell (p := ⟨wo.heap.size, j, none⟩) zx)
                        simp only [Nat.zero_add] at d0 d1 d2 d3
                        have HTG := Lib.hid (tags_any x.tags wr hxo.2.2)
                        have HEND : Hid (bb = true → tagsP x.tags = [] → is = false → ¬ (m : Int) < cp.size) := Lib.hid (fun h1 h2 h3 h4 => by
                          have hall := hbb.out.1 h1
                          have hin := HAL.out x HXM.out h2 (fun y hy => by
                            obtain ⟨k', hk'⟩ := List.mem_iff_getElem?.1 hy
                            exact (okA_iff x y).1 (hall k' y (by have := (List.getElem?_eq_some_iff.1 hk').1; rw [HN.out] at this; omega) hk')) h4
                          obtain ⟨k', hk'⟩ := List.mem_iff_getElem?.1 hin
                          have := his.out.2 ⟨k', (by have := (List.getElem?_eq_some_iff.1 hk').1; rw [HMM.out] at this; omega), hk'⟩
                          rw [h3] at this
                          cases this)
                        cases bb
                        · clear HTG
                          go_wp2_with fail
                          go_roundw
                          case rel => exact ⟨i + 1, by omega, by go_num, HB8⟩
                          case measure => simp [intOf]; omega
                        · go_wp2_with fail
                          refine HTG.out.mono ?_
                          rintro e w9 ⟨v9, rfl, hown9, hb9⟩
                          obtain ⟨A9, c9, rfl⟩ := own_shape hown9
                          have HB10 : Hid (Below w3.heap.size w3 w9) := Lib.hid (HB8.out.trans (hb9.mono HB8.out.size))
                          have q9 : w9.cell? ⟨w.heap.size, 0, none⟩ = some (.int .i64 cp.size) := (HB10.out.cell (p := ⟨w.heap.size, 0, none⟩) zc3).trans q0
                          have HTL : Hid ((tagsP x.tags).length = 0 → tagsP x.tags = []) := Lib.hid (fun h => List.eq_nil_of_length_eq_zero h)
                          clear HTG hown9 hb9 d0 d1 d2 d3
                          rcases Nat.eq_zero_or_pos (tagsP x.tags).length with ht | ht
                          · have hte := HTL.out ht
                            rw [ht]
                            clear ht
                            cases is
                            · have hlt : decide ((m : Int) < cp.size) = false := decide_eq_false (by have h9 := HEND.out; first | exact h9 rfl hte rfl | (simpa [hte] using h9))
                              clear hte
                              go_wp2_with fail
                              go_roundw
                              case rel => exact ⟨i + 1, by omega, by go_num, HB10⟩
                              case measure => simp [intOf]; omega
                            · clear hte
                              go_wp2_with fail
                              go_roundw
                              case rel => exact ⟨i + 1, by omega, by go_num, HB10⟩
                              case measure => simp [intOf]; omega
                          · generalize (tagsP x.tags).length = tl at *
                            have ht1 : ((tl : Int) == 0) = false := by simp; omega
                            have ht2 : (tl == 0) = false := by simp; omega
                            go_wp2_with fail
                            go_roundw
                            case rel => exact ⟨i + 1, by omega, by go_num, HB10⟩
                            case measure => simp [intOf]; omega
              · have HBE : Hid (Below w.heap.size w wo) := Lib.hid (HB3.out.trans (hbw.out.mono HB3.out.size))
                have HW := Lib.hid (awake_any wo (HG.out.keep HBE.out (Nat.le_refl _)))
                go_wp2_with fail
                refine HW.out.mono ?_
                rintro e w5 ⟨rfl, hb5⟩
                have HB5 : Hid (Below w.heap.size w w5) := Lib.hid (HBE.out.trans (hb5.mono HBE.out.size))
                clear hb5 HW
                go_wp2_with fail
                go_ret
                exact ⟨rfl, HB5.out⟩
  · have HW := Lib.hid (awake_any w1 (HG.out.keep hb1 (Nat.le_refl _)))
    clear hr
    go_wp2_with fail
    refine HW.out.mono ?_
    rintro e w5 ⟨rfl, hb5⟩
    have HB5 : Hid (Below w.heap.size w w5) := Lib.hid (hb1.trans (hb5.mono hb1.size))
    clear hb5 HW
    go_wp2_with fail
    go_ret
    exact ⟨rfl, HB5.out⟩
end Go.Proofs.YtiaklkfdgnhonaaDoor
