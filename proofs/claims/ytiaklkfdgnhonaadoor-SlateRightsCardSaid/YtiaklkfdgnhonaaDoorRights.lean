/- SlateRights: the walk. -/
import Derived.Test.YtiaklkfdgnhonaaDoorLeft
import Derived.IntWalk
namespace Go.Proofs.YtiaklkfdgnhonaaDoor
open Go.Shelf Go.RowKit Go.Lib Go.Sort Go.Maps
set_option linter.unusedVariables false

theorem row_grown {w w' : World} {B size n b : Nat} {xs : List Value} {row : Option Nat} (h : RowIn w B size (some ⟨b, 0, none⟩) n xs) (hb : b < w.heap.size) (hne : some b ≠ row) (hg : w.grownBy w' row) : RowIn w' B size (some ⟨b, 0, none⟩) n xs := by
  refine ⟨h.1, h.2.elim Or.inl fun hx => Or.inr ?_⟩
  obtain ⟨b', off, e, hb', hc⟩ := hx
  injection e with e
  injection e with e1 e2
  subst e1 e2
  exact ⟨b, 0, rfl, hb', fun j u hu => (World.cell?_of_block (hg.block b hb hne)).trans (hc j u hu)⟩
theorem below_drew {B : Nat} {w w' : World} (h : Below B w w') : Below B w w'.drew := ⟨h.os, h.tape, h.output, h.size, h.block⟩
theorem bel2 {w7 wa w1 wb w2 : World} {r1 r2 : Option Nat} (ha : Below w7.heap.size w7 wa) (hg1 : wa.grownBy w1 r1) (h1 : ∀ j, r1 = some j → w7.heap.size ≤ j) (hb : Below w7.heap.size w1 wb) (hg2 : wb.grownBy w2 r2) (h2 : ∀ j, r2 = some j → w7.heap.size ≤ j) : Below w7.heap.size w7 w2 := by
  have k1 : Kept (fun q => w7.heap.size ≤ q) w7 w1 := (⟨ha.os, ha.tape, ha.output, ha.size, fun i hi _ => ha.block i hi⟩ : Kept (fun q => w7.heap.size ≤ q) w7 wa).grown hg1 (fun j hj => Or.inl (h1 j hj))
  have k2 : Kept (fun q => w7.heap.size ≤ q) w7 wb := k1.trans' (T := fun q => w7.heap.size ≤ q) ⟨hb.os, hb.tape, hb.output, hb.size, fun i hi hn => hb.block i (by omega)⟩ (fun _ _ h => h)
  exact (k2.grown hg2 (fun j hj => Or.inl (h2 j hj))).toBelow (fun i hi => hi) (Nat.le_refl _)
theorem bel1 {w7 wa w1 : World} {r1 : Option Nat} (ha : Below w7.heap.size w7 wa) (hg1 : wa.grownBy w1 r1) (h1 : ∀ j, r1 = some j → w7.heap.size ≤ j) : Below w7.heap.size w7 w1 :=
  ((⟨ha.os, ha.tape, ha.output, ha.size, fun i hi _ => ha.block i hi⟩ : Kept (fun q => w7.heap.size ≤ q) w7 wa).grown hg1 (fun j hj => Or.inl (h1 j hj))).toBelow (fun i hi => hi) (Nat.le_refl _)
theorem bne_self (r : Bool) : (r != r) = false := by cases r <;> rfl

set_option maxHeartbeats 4000000 in
set_option maxRecDepth 100000 in
theorem slateRights_walk (A : Option Addr) (n c : Nat) (s : List Ch) (A' : Option Addr) (n' c' : Nat) (l : List Ch) (cp : Cp) (w : World) (ha : ChArg w A n c s) (ha' : ChArg w A' n' c' l) (hg : GlobAt w) :
    Calls Tryd.prog 10 #[.slice A n c, .slice A' n' c', .agg #[.int .i64 cp.size, .int .i64 cp.maker, .int .i64 cp.tag]] w fun e w' => e = .returned (.bool true) ∧ Below w.heap.size w w' := by
  obtain ⟨i0, hi0, hz0, hz1, hz2⟩ := info_parts ch_info
  have HA := Lib.hid ha
  have HA' := Lib.hid ha'
  have HG := Lib.hid hg
  clear ha ha' hg
  obtain ⟨w0, hw0⟩ : ∃ w0, w.alloc (.cells #[.int .i64 cp.size, .int .i64 cp.maker, .int .i64 cp.tag] 28) = w0 := ⟨_, rfl⟩
  have hb0 : Below w.heap.size w w0 := by rw [← hw0]; exact (Below.refl _ _).alloc (Nat.le_refl _) _
  have bc : Blk w0 w.heap.size 28 #[.int .i64 cp.size, .int .i64 cp.maker, .int .i64 cp.tag] := by rw [← hw0]; exact Blk.new _ _ _
  have HLG := Lib.hid (long_any w0 w.heap.size A' l n' c' HA'.out.len (HA'.out.at_.below hb0) hb0.size HA'.out.few HA'.out.size)
  have hzc := bc.lt
  have HC0 := Lib.hid bc
  clear bc
  go_enter Tryd.func10, Tryd.ntmps10
  go_wp2_with fail
  clear hw0
  refine HLG.out.mono ?_
  rintro e w1 ⟨r, rfl, hr, hb1'⟩
  have HB1 : Hid (Below w.heap.size w w1) := Lib.hid (hb0.trans (hb1'.mono hb0.size))
  have HC1 : Hid (Blk w1 w.heap.size 28 #[.int .i64 cp.size, .int .i64 cp.maker, .int .i64 cp.tag]) := Lib.hid ((hb1'.block _ hzc).trans HC0.out)
  clear HLG HC0 hb1' hb0 hzc
  cases r
  · have HSL := Lib.hid (hr rfl)
    have hn40 : n' ≤ 40 := by rw [← HA'.out.len]; exact HSL.out.1
    have HLG := Lib.hid (long_any w1 w.heap.size A s n c HA.out.len (HA.out.at_.below HB1.out) HB1.out.size HA.out.few HA.out.size)
    clear hr
    go_wp2_with fail
    refine HLG.out.mono ?_
    rintro e w2 ⟨r, rfl, hr, hb2⟩
    have HB2 : Hid (Below w.heap.size w w2) := Lib.hid (HB1.out.trans (hb2.mono HB1.out.size))
    have bc2 : Blk w2 w.heap.size 28 #[.int .i64 cp.size, .int .i64 cp.maker, .int .i64 cp.tag] := (hb2.block _ HC1.out.lt).trans HC1.out
    have HC2 := Lib.hid bc2
    clear HLG hb2 HC1 HB1
    cases r
    · have HSS := Lib.hid (hr rfl)
      have hm40 : n ≤ 40 := by rw [← HA.out.len]; exact HSS.out.1
      have q0 : w2.cell? ⟨w.heap.size, 0, none⟩ = some (.int .i64 cp.size) := bc2.cell 0
      have q1 : w2.cell? ⟨w.heap.size, 1, none⟩ = some (.int .i64 cp.maker) := bc2.cell 1
      have q2 : w2.cell? ⟨w.heap.size, 2, none⟩ = some (.int .i64 cp.tag) := bc2.cell 2
      have HR := Lib.hid (refmake_any w2 w.heap.size A' l n' c' cp HA'.out.len (HA'.out.at_.below HB2.out) HB2.out.size (by omega) HSL.out.okc)
      have hml : (makeP cp l).length ≤ n' := by rw [← HA'.out.len]; exact makeP_len cp l
      clear hr bc2
      go_wp2_with fail
      refine HR.out.mono ?_
      rintro e w3 ⟨v3, rfl, hown3, hb3⟩
      obtain ⟨A3, c3, rfl⟩ := own_shape hown3
      have HB3 : Hid (Below w.heap.size w w3) := Lib.hid (HB2.out.trans (hb3.mono HB2.out.size))
      have bc3 : Blk w3 w.heap.size 28 #[.int .i64 cp.size, .int .i64 cp.maker, .int .i64 cp.tag] := (hb3.block _ HC2.out.lt).trans HC2.out
      have HC3 := Lib.hid bc3
      have HO3 := Lib.hid hown3
      clear HR hown3 hb3 q0 q1 q2 HC2
      have q0 : w3.cell? ⟨w.heap.size, 0, none⟩ = some (.int .i64 cp.size) := bc3.cell 0
      have q1 : w3.cell? ⟨w.heap.size, 1, none⟩ = some (.int .i64 cp.maker) := bc3.cell 1
      have q2 : w3.cell? ⟨w.heap.size, 2, none⟩ = some (.int .i64 cp.tag) := bc3.cell 2
      clear bc3
      have HR1 := Lib.hid (right_any w3 w.heap.size A A' s l n n' c c' cp HA.out.len HA'.out.len (HA.out.at_.below HB3.out) (HA'.out.at_.below HB3.out) HB3.out.size HA'.out.nil (by omega) (by omega) HSL.out.okc (HG.out.keep HB3.out (Nat.le_refl _)))
      go_wp2_with fail
      refine HR1.out.mono ?_
      rintro e w4 ⟨r1, rfl, hr1, hb4⟩
      have HB4 : Hid (Below w.heap.size w w4) := Lib.hid (HB3.out.trans (hb4.mono HB3.out.size))
      have HB34 : Hid (Below w3.heap.size w3 w4) := Lib.hid hb4
      have hs4 : ChsAt w4 w4.heap.size A s := RowIn.more (HA.out.at_.below HB4.out) HB4.out.size
      have hw4 : ChsAt w4 w4.heap.size A3 (makeP cp l) := RowIn.more (RowIn.below (RowIn.of_own HO3.out) hb4) hb4.size
      have HSM := Lib.hid (same_any w4 w4.heap.size A A3 s (makeP cp l) n (makeP cp l).length c c3 HA.out.len rfl hs4 hw4 (by omega) (by omega))
      have HR1' := Lib.hid hr1
      clear HR1 hr1 hb4 hs4 hw4 q0 q1 q2
      go_wp2_with fail
      refine HSM.out.mono ?_
      rintro e w5 ⟨r2, rfl, hr2, q, rfl⟩
      obtain rfl : r1 = r2 := by rw [Bool.eq_iff_iff, HR1'.out, hr2]
      have bc4 : Blk (w4.drewN q) w.heap.size 28 #[.int .i64 cp.size, .int .i64 cp.maker, .int .i64 cp.tag] := (HB34.out.block _ HC3.out.lt).trans HC3.out
      have q0 : (w4.drewN q).cell? ⟨w.heap.size, 0, none⟩ = some (.int .i64 cp.size) := bc4.cell 0
      have q1 : (w4.drewN q).cell? ⟨w.heap.size, 1, none⟩ = some (.int .i64 cp.maker) := bc4.cell 1
      have q2 : (w4.drewN q).cell? ⟨w.heap.size, 2, none⟩ = some (.int .i64 cp.tag) := bc4.cell 2
      have HB5 : Hid (Below w.heap.size w (w4.drewN q)) := Lib.hid (below_drewN HB4.out q)
      have HB35 : Hid (Below w3.heap.size w3 (w4.drewN q)) := Lib.hid (below_drewN HB34.out q)
      obtain ⟨w5, hw5⟩ : ∃ w5, w4.drewN q = w5 := ⟨_, rfl⟩
      rw [hw5] at q0 q1 q2 HB5 HB35 ⊢
      have hwt : ChsAt w5 w5.heap.size A3 (makeP cp l) := RowIn.more (RowIn.below (RowIn.of_own HO3.out) HB35.out) HB35.out.size
      have hl5 : ChsAt w5 w5.heap.size A' l := RowIn.more (HA'.out.at_.below HB5.out) HB5.out.size
      have HR2 := Lib.hid (right_any w5 w5.heap.size A3 A' (makeP cp l) l (makeP cp l).length n' c3 c' cp rfl HA'.out.len hwt hl5 (Nat.le_refl _) HA'.out.nil (by omega) (by omega) HSL.out.okc (HG.out.keep HB5.out (Nat.le_refl _)))
      have hbs := bne_self r1
      clear HSM hr2 HR1' bc4 hw5 hwt hl5
      go_wp2_with fail
      refine HR2.out.mono ?_
      rintro e w6 ⟨r3, rfl, hr3, hb6⟩
      obtain rfl : r3 = true := (by simpa using hr3)
      have HB6 : Hid (Below w.heap.size w w6) := Lib.hid (HB5.out.trans (hb6.mono HB5.out.size))
      have HB36 : Hid (Below w3.heap.size w3 w6) := Lib.hid (HB35.out.trans (hb6.mono HB35.out.size))
      have bc6 : Blk w6 w.heap.size 28 #[.int .i64 cp.size, .int .i64 cp.maker, .int .i64 cp.tag] := (HB36.out.block _ HC3.out.lt).trans HC3.out
      clear HR2 hr3 hb6 q0 q1 q2 hbs
      have q0 : w6.cell? ⟨w.heap.size, 0, none⟩ = some (.int .i64 cp.size) := bc6.cell 0
      have q1 : w6.cell? ⟨w.heap.size, 1, none⟩ = some (.int .i64 cp.maker) := bc6.cell 1
      have q2 : w6.cell? ⟨w.heap.size, 2, none⟩ = some (.int .i64 cp.tag) := bc6.cell 2
      clear bc6
      go_wp2_with fail
      obtain ⟨m, hm⟩ : ∃ m, (makeP cp l).length = m := ⟨_, rfl⟩
      have HMm := Lib.hid hm
      rw [hm] at hml HO3 ⊢
      clear hm
      rcases Nat.eq_zero_or_pos m with hm0 | hm0
      · have t1 : decide (0 < m) = false := decide_eq_false (by omega)
        have t2 : decide ((0 : Int) < (m : Int)) = false := decide_eq_false (by omega)
        have HM0 := Lib.hid hm0
        clear hm0
        go_quiet (fail)
        have HB7 : Hid (Below w.heap.size w (w6.drewN nq)) := Lib.hid (below_drewN HB6.out nq)
        have HB37 : Hid (Below w3.heap.size w3 (w6.drewN nq)) := Lib.hid (below_drewN HB36.out nq)
        have x0 : (w6.drewN nq).cell? ⟨w.heap.size, 0, none⟩ = some (.int .i64 cp.size) := q0
        have x1 : (w6.drewN nq).cell? ⟨w.heap.size, 1, none⟩ = some (.int .i64 cp.maker) := q1
        have x2 : (w6.drewN nq).cell? ⟨w.heap.size, 2, none⟩ = some (.int .i64 cp.tag) := q2
        obtain ⟨w7, hw7⟩ : ∃ w7, w6.drewN nq = w7 := ⟨_, rfl⟩
        rw [hw7] at HB7 HB37 x0 x1 x2 ⊢
        clear hw7 q0 q1 q2 t1 t2
        have q0 := x0
        have q1 := x1
        have q2 := x2
        clear x0 x1 x2
        have zc7 : w.heap.size < w7.heap.size := Nat.lt_of_lt_of_le HC3.out.lt HB37.out.size
        have hr7 : RowIn w7 w7.heap.size 4 A3 m ((makeP cp l).flatMap chC) := RowIn.more (RowIn.below (RowIn.of_own HO3.out) HB37.out) HB37.out.size
        have HNIL : Hid (A3 = none → c3 = 0) := Lib.hid (fun h => by
          rcases HO3.out.2 with ⟨h1, _⟩ | ⟨g, cap, cur, h1, _⟩
          · injection h1
          · subst h; injection h1 with h1; cases h1)
        have HONE := Lib.hid (chC_one (makeP cp l))
        have HONX : Hid (∀ u ∈ chC ⟨⟨#[109, 111, 114, 101]⟩, ⟨#[]⟩, ⟨#[]⟩, 0⟩, u.oneCell' = true) := Lib.hid (fun u hu => chC_one [⟨⟨#[109, 111, 114, 101]⟩, ⟨#[]⟩, ⟨#[]⟩, 0⟩] u (by simpa using hu))
        have P1 : Hid (0 + m ≤ maxLen) := Lib.hid (by unfold maxLen; omega)
        have P2 : Hid ((0 + m) * 56 ≤ 140737488355328) := Lib.hid (by omega)
        have P3 : Hid (0 + m + 1 ≤ maxLen) := Lib.hid (by unfold maxLen; omega)
        have P4 : Hid ((0 + m + 1) * 56 ≤ 140737488355328) := Lib.hid (by omega)
        have HRW : Hid (∀ W A9 c9, W.ownsRow w7.heap.size 32 4 (.slice A9 (0 + m + 1) c9) (0 + m + 1) ([] ++ (makeP cp l).flatMap chC ++ chC ⟨⟨#[109, 111, 114, 101]⟩, ⟨#[]⟩, ⟨#[]⟩, 0⟩) → Below w7.heap.size w7 W → Calls Tryd.prog 22 #[.slice A9 (m + 1) c9, .slice A' n' c', .agg #[.int .i64 cp.size, .int .i64 cp.maker, .int .i64 cp.tag]] W fun e w' => e = .returned (.bool false) ∧ Below w7.heap.size w7 w' ∧ w'.cell? ⟨w.heap.size, 0, none⟩ = some (.int .i64 cp.size) ∧ w'.cell? ⟨w.heap.size, 1, none⟩ = some (.int .i64 cp.maker) ∧ w'.cell? ⟨w.heap.size, 2, none⟩ = some (.int .i64 cp.tag)) := Lib.hid (fun W A9 c9 ho hb => by
          rw [Nat.zero_add] at ho
          have hBW : Below w.heap.size w W := HB7.out.trans (hb.mono HB7.out.size)
          have hrow : ChsAt W W.heap.size A9 (makeP cp l ++ [⟨⟨#[109, 111, 114, 101]⟩, ⟨#[]⟩, ⟨#[]⟩, 0⟩]) := by
            have h1 := RowIn.of_own ho
            unfold ChsAt
            rw [List.flatMap_append, List.length_append]
            rw [show [(⟨⟨#[109, 111, 114, 101]⟩, ⟨#[]⟩, ⟨#[]⟩, 0⟩ : Ch)].flatMap chC = chC ⟨⟨#[109, 111, 114, 101]⟩, ⟨#[]⟩, ⟨#[]⟩, 0⟩ from by simp]
            rw [show (makeP cp l).length + [(⟨⟨#[109, 111, 114, 101]⟩, ⟨#[]⟩, ⟨#[]⟩, 0⟩ : Ch)].length = m + 1 from by rw [HMm.out]; simp]
            exact h1
          refine (right_any W W.heap.size A9 A' (makeP cp l ++ [⟨⟨#[109, 111, 114, 101]⟩, ⟨#[]⟩, ⟨#[]⟩, 0⟩]) l (m + 1) n' c9 c' cp (by rw [List.length_append, HMm.out]; simp) HA'.out.len hrow (RowIn.more (HA'.out.at_.below hBW) hBW.size) (Nat.le_refl _) HA'.out.nil (by omega) (by omega) HSL.out.okc (HG.out.keep hBW (Nat.le_refl _))).mono ?_
          rintro e w' ⟨r, rfl, hr, hb'⟩
          have hb2 : Below w7.heap.size w7 w' := hb.trans (hb'.mono hb.size)
          obtain rfl : r = false := by
            cases r
            · rfl
            · have := congrArg List.length (hr.1 rfl)
              simp at this
          exact ⟨rfl, hb2, (hb2.cell (p := ⟨w.heap.size, 0, none⟩) zc7).trans q0, (hb2.cell (p := ⟨w.heap.size, 1, none⟩) zc7).trans q1, (hb2.cell (p := ⟨w.heap.size, 2, none⟩) zc7).trans q2⟩)
        have HAW : Hid (∀ W, Below w7.heap.size w7 W → Calls Tryd.prog 12 #[] W fun e w' => e = .returned (.bool true) ∧ Below w7.heap.size w7 w' ∧ w'.cell? ⟨w.heap.size, 0, none⟩ = some (.int .i64 cp.size) ∧ w'.cell? ⟨w.heap.size, 1, none⟩ = some (.int .i64 cp.maker) ∧ w'.cell? ⟨w.heap.size, 2, none⟩ = some (.int .i64 cp.tag)) := Lib.hid (fun W hb => by
          have hBW : Below w.heap.size w W := HB7.out.trans (hb.mono HB7.out.size)
          refine (awake_any W (HG.out.keep hBW (Nat.le_refl _))).mono ?_
          rintro e w' ⟨rfl, hb'⟩
          have hb2 : Below w7.heap.size w7 w' := hb.trans (hb'.mono hb.size)
          exact ⟨rfl, hb2, (hb2.cell (p := ⟨w.heap.size, 0, none⟩) zc7).trans q0, (hb2.cell (p := ⟨w.heap.size, 1, none⟩) zc7).trans q1, (hb2.cell (p := ⟨w.heap.size, 2, none⟩) zc7).trans q2⟩)
        have HR7 := Lib.hid hr7
        have HRE : Hid (RowIn (w7.alloc (.cells #[] 32)) w7.heap.size 4 A3 m ((makeP cp l).flatMap chC)) := Lib.hid (RowIn.alloc hr7 (Nat.le_refl _) _)
        have HRN : Hid (∀ o o2 : Obj, RowIn ((w7.alloc o).alloc o2) w7.heap.size 4 A3 m ((makeP cp l).flatMap chC)) := Lib.hid (fun o o2 => RowIn.alloc (RowIn.alloc hr7 (Nat.le_refl _) _) (by simp) _)
        have HOA := Lib.hid (own_empty w7 32 4)
        have HOC : Hid (∀ o : Obj, ((w7.alloc o).alloc (.cells #[] 32)).ownsRow w7.heap.size 32 4 (.slice (some ⟨w7.heap.size + 1, 0, none⟩) 0 0) 0 []) := Lib.hid (fun o => by
          have := own_empty (w7.alloc o) 32 4
          rw [show (w7.alloc o).heap.size = w7.heap.size + 1 from by simp] at this
          exact this.mono (by omega))
        have H1B : Hid (RowIn ((w7.alloc (.cells #[] 32)).alloc (.cells #[.string ⟨#[109, 111, 114, 101]⟩, .string ⟨#[]⟩, .string ⟨#[]⟩, .int .i64 0] 32)) (w7.heap.size + 2) 4 (some ⟨w7.heap.size + 1, 0, none⟩) 1 (chC ⟨⟨#[109, 111, 114, 101]⟩, ⟨#[]⟩, ⟨#[]⟩, 0⟩)) := Lib.hid (by
          have := one_row (w7.alloc (.cells #[] 32)) ⟨⟨#[109, 111, 114, 101]⟩, ⟨#[]⟩, ⟨#[]⟩, 0⟩ 32
          rw [show (w7.alloc (.cells #[] 32)).heap.size = w7.heap.size + 1 from by simp] at this
          exact this)
        have H1C : Hid (RowIn ((w7.alloc (.cells #[.string ⟨#[109, 111, 114, 101]⟩, .string ⟨#[]⟩, .string ⟨#[]⟩, .int .i64 0] 32)).alloc (.cells #[] 32)) (w7.heap.size + 1) 4 (some ⟨w7.heap.size, 0, none⟩) 1 (chC ⟨⟨#[109, 111, 114, 101]⟩, ⟨#[]⟩, ⟨#[]⟩, 0⟩)) := Lib.hid (RowIn.alloc (one_row w7 ⟨⟨#[109, 111, 114, 101]⟩, ⟨#[]⟩, ⟨#[]⟩, 0⟩ 32) (by simp) _)
        have HBA : Hid (∀ o : Obj, Below w7.heap.size w7 (w7.alloc o).drew) := Lib.hid (fun o => below_drew ((Below.refl _ _).alloc (Nat.le_refl _) _))
        have HBA0 : Hid (∀ o : Obj, Below w7.heap.size w7 (w7.alloc o)) := Lib.hid (fun o => (Below.refl _ _).alloc (Nat.le_refl _) _)
        have HBB : Hid (∀ o o2 : Obj, Below w7.heap.size w7 ((w7.alloc o).alloc o2).drew) := Lib.hid (fun o o2 => below_drew (((Below.refl _ _).alloc (Nat.le_refl _) _).alloc (by simp) _))
        have HBB0 : Hid (∀ o o2 : Obj, Below w7.heap.size w7 ((w7.alloc o).alloc o2)) := Lib.hid (fun o o2 => ((Below.refl _ _).alloc (Nat.le_refl _) _).alloc (by simp) _)
        have HBX : Hid (∀ (W : World) (o : Obj), Below w7.heap.size w7 W → Below w7.heap.size w7 (W.alloc o)) := Lib.hid (fun W o h => h.alloc h.size _)
        clear hr7
        go_wp2_with fail
        go_region_held3 (fun W => W.cell? ⟨w.heap.size, 0, none⟩ = some (.int .i64 cp.size) ∧ W.cell? ⟨w.heap.size, 1, none⟩ = some (.int .i64 cp.maker) ∧ W.cell? ⟨w.heap.size, 2, none⟩ = some (.int .i64 cp.tag))
          (first | (exact ⟨by assumption, by assumption, by assumption⟩) | go_keep)
          (first
            | (refine step_append_row _ (by rfl) (.tmp 46) (.tmp 47) 22 (by rfl) w7.heap.size 32 i0 _ 4 56 Tryd.underlying22 hi0 hz0 hz1 hz2 rfl (by decide) (.slice (some ⟨w7.heap.size, 0, none⟩) 0 0) 0 [] (by rfl) HOA.out w7.heap.size A3 m c3 _ (by rfl) HRE.out HNIL.out HONE.out P1.out P2.out (by simp <;> omega) ?_; intro v1 wx ho1 hg1 hv1; have b1 : Below w7.heap.size w7 wx := bel1 (by first | exact HBA.out _ | exact HBA0.out _ | exact HBB.out _ _ | exact HBB0.out _ _ | exact b1 | exact HBX.out _ _ b1) hg1 (fun j hj => by first | exact (ho1.lt _ hj).1 | (cases hj; exact Nat.le_refl _) | (cases hj; exact Nat.le_succ _)); have g0 : wx.cell? ⟨w.heap.size, 0, none⟩ = some (.int .i64 cp.size) := (b1.cell (p := ⟨w.heap.size, 0, none⟩) zc7).trans q0; have g1 : wx.cell? ⟨w.heap.size, 1, none⟩ = some (.int .i64 cp.maker) := (b1.cell (p := ⟨w.heap.size, 1, none⟩) zc7).trans q1; have g2 : wx.cell? ⟨w.heap.size, 2, none⟩ = some (.int .i64 cp.tag) := (b1.cell (p := ⟨w.heap.size, 2, none⟩) zc7).trans q2)
            | (refine step_append_row _ (by rfl) (.tmp 46) (.tmp 47) 22 (by rfl) w7.heap.size 32 i0 _ 4 56 Tryd.underlying22 hi0 hz0 hz1 hz2 rfl (by decide) (.slice (some ⟨w7.heap.size, 0, none⟩) 0 0) 0 [] (by rfl) (HOA.out.alloc _) w7.heap.size A3 m c3 _ (by rfl) (HRN.out _ _) HNIL.out HONE.out P1.out P2.out (by simp <;> omega) ?_; intro v1 wx ho1 hg1 hv1; have b1 : Below w7.heap.size w7 wx := bel1 (by first | exact HBA.out _ | exact HBA0.out _ | exact HBB.out _ _ | exact HBB0.out _ _ | exact b1 | exact HBX.out _ _ b1) hg1 (fun j hj => by first | exact (ho1.lt _ hj).1 | (cases hj; exact Nat.le_refl _) | (cases hj; exact Nat.le_succ _)); have g0 : wx.cell? ⟨w.heap.size, 0, none⟩ = some (.int .i64 cp.size) := (b1.cell (p := ⟨w.heap.size, 0, none⟩) zc7).trans q0; have g1 : wx.cell? ⟨w.heap.size, 1, none⟩ = some (.int .i64 cp.maker) := (b1.cell (p := ⟨w.heap.size, 1, none⟩) zc7).trans q1; have g2 : wx.cell? ⟨w.heap.size, 2, none⟩ = some (.int .i64 cp.tag) := (b1.cell (p := ⟨w.heap.size, 2, none⟩) zc7).trans q2)
            | (refine step_append_row _ (by rfl) (.tmp 46) (.tmp 47) 22 (by rfl) w7.heap.size 32 i0 _ 4 56 Tryd.underlying22 hi0 hz0 hz1 hz2 rfl (by decide) (.slice (some ⟨w7.heap.size + 1, 0, none⟩) 0 0) 0 [] (by rfl) (HOC.out _) w7.heap.size A3 m c3 _ (by rfl) (HRN.out _ _) HNIL.out HONE.out P1.out P2.out (by simp <;> omega) ?_; intro v1 wx ho1 hg1 hv1; have b1 : Below w7.heap.size w7 wx := bel1 (by first | exact HBA.out _ | exact HBA0.out _ | exact HBB.out _ _ | exact HBB0.out _ _ | exact b1 | exact HBX.out _ _ b1) hg1 (fun j hj => by first | exact (ho1.lt _ hj).1 | (cases hj; exact Nat.le_refl _) | (cases hj; exact Nat.le_succ _)); have g0 : wx.cell? ⟨w.heap.size, 0, none⟩ = some (.int .i64 cp.size) := (b1.cell (p := ⟨w.heap.size, 0, none⟩) zc7).trans q0; have g1 : wx.cell? ⟨w.heap.size, 1, none⟩ = some (.int .i64 cp.maker) := (b1.cell (p := ⟨w.heap.size, 1, none⟩) zc7).trans q1; have g2 : wx.cell? ⟨w.heap.size, 2, none⟩ = some (.int .i64 cp.tag) := (b1.cell (p := ⟨w.heap.size, 2, none⟩) zc7).trans q2)
            | (refine step_append_row _ (by rfl) (.tmp 48) (.tmp 50) 22 (by rfl) w7.heap.size 32 i0 _ 4 56 Tryd.underlying22 hi0 hz0 hz1 hz2 rfl (by decide) v1 (0 + m) ([] ++ (makeP cp l).flatMap chC) (by rfl) (ho1.alloc _) (wx.heap.size + 1) (some ⟨wx.heap.size, 0, none⟩) 1 1 (chC ⟨⟨#[109, 111, 114, 101]⟩, ⟨#[]⟩, ⟨#[]⟩, 0⟩) (by rfl) (one_row wx ⟨⟨#[109, 111, 114, 101]⟩, ⟨#[]⟩, ⟨#[]⟩, 0⟩ _) (fun h => by cases h) HONX.out P3.out P4.out (Nat.le_trans b1.size (by simp)) ?_; intro v2 wy ho2 hg2 hv2; have b2 : Below w7.heap.size w7 wy := bel1 (by first | exact HBA.out _ | exact HBA0.out _ | exact HBB.out _ _ | exact HBB0.out _ _ | exact b1 | exact HBX.out _ _ b1) hg2 (fun j hj => by first | exact (ho1.lt _ hj).1 | (cases hj; exact Nat.le_refl _) | (cases hj; exact Nat.le_succ _)); have y0 : wy.cell? ⟨w.heap.size, 0, none⟩ = some (.int .i64 cp.size) := (b2.cell (p := ⟨w.heap.size, 0, none⟩) zc7).trans q0; have y1 : wy.cell? ⟨w.heap.size, 1, none⟩ = some (.int .i64 cp.maker) := (b2.cell (p := ⟨w.heap.size, 1, none⟩) zc7).trans q1; have y2 : wy.cell? ⟨w.heap.size, 2, none⟩ = some (.int .i64 cp.tag) := (b2.cell (p := ⟨w.heap.size, 2, none⟩) zc7).trans q2; obtain ⟨A9, c9, hr9⟩ := own_shape ho2; subst hr9)
            | (refine step_append_row _ (by rfl) (.tmp 48) (.tmp 50) 22 (by rfl) w7.heap.size 32 i0 _ 4 56 Tryd.underlying22 hi0 hz0 hz1 hz2 rfl (by decide) v1 (0 + m) ([] ++ (makeP cp l).flatMap chC) (by rfl) ho1 (w7.heap.size + 2) (some ⟨w7.heap.size + 1, 0, none⟩) 1 1 (chC ⟨⟨#[109, 111, 114, 101]⟩, ⟨#[]⟩, ⟨#[]⟩, 0⟩) (by rfl) (row_grown (RowIn.drew H1B.out) (by simp <;> omega) (by simp [Value.ownBlock] <;> omega) hg1) (fun h => by cases h) HONX.out P3.out P4.out (Nat.le_trans b1.size (by simp)) ?_; intro v2 wy ho2 hg2 hv2; have b2 : Below w7.heap.size w7 wy := bel1 (by first | exact HBA.out _ | exact HBA0.out _ | exact HBB.out _ _ | exact HBB0.out _ _ | exact b1 | exact HBX.out _ _ b1) hg2 (fun j hj => by first | exact (ho1.lt _ hj).1 | (cases hj; exact Nat.le_refl _) | (cases hj; exact Nat.le_succ _)); have y0 : wy.cell? ⟨w.heap.size, 0, none⟩ = some (.int .i64 cp.size) := (b2.cell (p := ⟨w.heap.size, 0, none⟩) zc7).trans q0; have y1 : wy.cell? ⟨w.heap.size, 1, none⟩ = some (.int .i64 cp.maker) := (b2.cell (p := ⟨w.heap.size, 1, none⟩) zc7).trans q1; have y2 : wy.cell? ⟨w.heap.size, 2, none⟩ = some (.int .i64 cp.tag) := (b2.cell (p := ⟨w.heap.size, 2, none⟩) zc7).trans q2; obtain ⟨A9, c9, hr9⟩ := own_shape ho2; subst hr9)
            | (refine step_append_row _ (by rfl) (.tmp 48) (.tmp 50) 22 (by rfl) w7.heap.size 32 i0 _ 4 56 Tryd.underlying22 hi0 hz0 hz1 hz2 rfl (by decide) v1 (0 + m) ([] ++ (makeP cp l).flatMap chC) (by rfl) ho1 (w7.heap.size + 1) (some ⟨w7.heap.size, 0, none⟩) 1 1 (chC ⟨⟨#[109, 111, 114, 101]⟩, ⟨#[]⟩, ⟨#[]⟩, 0⟩) (by rfl) (row_grown (RowIn.drew H1C.out) (by simp <;> omega) (by simp [Value.ownBlock] <;> omega) hg1) (fun h => by cases h) HONX.out P3.out P4.out (Nat.le_trans b1.size (by simp)) ?_; intro v2 wy ho2 hg2 hv2; have b2 : Below w7.heap.size w7 wy := bel1 (by first | exact HBA.out _ | exact HBA0.out _ | exact HBB.out _ _ | exact HBB0.out _ _ | exact b1 | exact HBX.out _ _ b1) hg2 (fun j hj => by first | exact (ho1.lt _ hj).1 | (cases hj; exact Nat.le_refl _) | (cases hj; exact Nat.le_succ _)); have y0 : wy.cell? ⟨w.heap.size, 0, none⟩ = some (.int .i64 cp.size) := (b2.cell (p := ⟨w.heap.size, 0, none⟩) zc7).trans q0; have y1 : wy.cell? ⟨w.heap.size, 1, none⟩ = some (.int .i64 cp.maker) := (b2.cell (p := ⟨w.heap.size, 1, none⟩) zc7).trans q1; have y2 : wy.cell? ⟨w.heap.size, 2, none⟩ = some (.int .i64 cp.tag) := (b2.cell (p := ⟨w.heap.size, 2, none⟩) zc7).trans q2; obtain ⟨A9, c9, hr9⟩ := own_shape ho2; subst hr9)
            | (go_at_call 22; (with_reducible refine (HRW.out _ _ _ ho2 b2).mono ?_); rintro e w' ⟨rfl, b3, y3, y4, y5⟩)
            | (go_at_call 12; (with_reducible refine (HAW.out _ b3).mono ?_); rintro e w'' ⟨rfl, b4, y6, y7, y8⟩)
            | fail)
        all_goals (go_wp2_with fail; go_ret; exact ⟨rfl, HB7.out.trans (b4.mono HB7.out.size)⟩)
      · have t1 : decide (0 < m) = true := decide_eq_true hm0
        have t2 : decide ((0 : Int) < (m : Int)) = true := decide_eq_true (by omega)
        have hcap := own_cap HO3.out
        obtain ⟨k, hk⟩ : ∃ k : Nat, m - 1 = k := ⟨_, rfl⟩
        have hk1 : (m : Int) - 1 = (k : Int) := by omega
        have hk2 : (0 : Int) ≤ (k : Int) := by omega
        have hk3 : (k : Int) ≤ (c3 : Int) := by omega
        have hfr : ChsAt w6 w3.heap.size A3 ((makeP cp l).take k) := RowIn.below (own_front HO3.out HMm.out (by omega)) HB36.out
        have HRR := Lib.hid (right_any w6.drew w6.heap.size A3 A' ((makeP cp l).take k) l k n' c3 c' cp (by rw [List.length_take, HMm.out]; omega) HA'.out.len (RowIn.drew (RowIn.more hfr HB36.out.size)) (RowIn.drew (RowIn.more (HA'.out.at_.below HB6.out) HB6.out.size)) (Nat.le_refl _) HA'.out.nil (by omega) (by omega) HSL.out.okc ((HG.out.keep HB6.out (Nat.le_refl _)).drewN 1))
        have HNE : Hid (¬ (makeP cp l).take k = makeP cp l) := Lib.hid (fun e => by have := congrArg List.length e; rw [List.length_take, HMm.out] at this; omega)
        clear hfr hk hm0
        have hwk : IntKind.i64.wrap (k : Int) = (k : Int) := IntWalk.i64_in _ (by omega)
        refine wp_text [11] (by kernel_rfl) (by kernel_rfl) ?_
        simp only [wpText, Nat.sub_zero, List.take_succ_cons, List.take_zero, List.drop_succ_cons, List.drop_zero, Nat.reduceAdd]
        repeat ((with_reducible refine wpStill_step (fun K hK => ?_)); go_simp; refine hK _ ?_; clear hK K)
        with_reducible refine wpStill_nil ?_
        go_wp2_with fail
        refine HRR.out.mono ?_
        rintro e w7 ⟨r, rfl, hr, hb7⟩
        obtain rfl : r = false := by
          cases r
          · rfl
          · exact absurd (hr.1 rfl) HNE.out
        have HB7 : Hid (Below w.heap.size w w7) := Lib.hid (HB6.out.trans (⟨hb7.os, hb7.tape, hb7.output, hb7.size, fun i hi => hb7.block i (Nat.lt_of_lt_of_le hi HB6.out.size)⟩ : Below w.heap.size w6 w7))
        have HB37 : Hid (Below w3.heap.size w3 w7) := Lib.hid (HB36.out.trans (⟨hb7.os, hb7.tape, hb7.output, hb7.size, fun i hi => hb7.block i (Nat.lt_of_lt_of_le hi HB36.out.size)⟩ : Below w3.heap.size w6 w7))
        have bc7 : Blk w7 w.heap.size 28 #[.int .i64 cp.size, .int .i64 cp.maker, .int .i64 cp.tag] := (HB37.out.block _ HC3.out.lt).trans HC3.out
        clear HRR hr hb7 q0 q1 q2
        have q0 : w7.cell? ⟨w.heap.size, 0, none⟩ = some (.int .i64 cp.size) := bc7.cell 0
        have q1 : w7.cell? ⟨w.heap.size, 1, none⟩ = some (.int .i64 cp.maker) := bc7.cell 1
        have q2 : w7.cell? ⟨w.heap.size, 2, none⟩ = some (.int .i64 cp.tag) := bc7.cell 2
        clear bc7 t1 t2 hk1 hk2 hk3 hwk
        go_wp2_with fail
        repeat ((with_reducible refine wpStill_step (fun K hK => ?_)); go_simp; refine hK _ ?_; clear hK K)
        (try with_reducible refine wpStill_nil ?_)
        have zc7 : w.heap.size < w7.heap.size := Nat.lt_of_lt_of_le HC3.out.lt HB37.out.size
        have hr7 : RowIn w7 w7.heap.size 4 A3 m ((makeP cp l).flatMap chC) := RowIn.more (RowIn.below (RowIn.of_own HO3.out) HB37.out) HB37.out.size
        have HNIL : Hid (A3 = none → c3 = 0) := Lib.hid (fun h => by
          rcases HO3.out.2 with ⟨h1, _⟩ | ⟨g, cap, cur, h1, _⟩
          · injection h1
          · subst h; injection h1 with h1; cases h1)
        have HONE := Lib.hid (chC_one (makeP cp l))
        have HONX : Hid (∀ u ∈ chC ⟨⟨#[109, 111, 114, 101]⟩, ⟨#[]⟩, ⟨#[]⟩, 0⟩, u.oneCell' = true) := Lib.hid (fun u hu => chC_one [⟨⟨#[109, 111, 114, 101]⟩, ⟨#[]⟩, ⟨#[]⟩, 0⟩] u (by simpa using hu))
        have P1 : Hid (0 + m ≤ maxLen) := Lib.hid (by unfold maxLen; omega)
        have P2 : Hid ((0 + m) * 56 ≤ 140737488355328) := Lib.hid (by omega)
        have P3 : Hid (0 + m + 1 ≤ maxLen) := Lib.hid (by unfold maxLen; omega)
        have P4 : Hid ((0 + m + 1) * 56 ≤ 140737488355328) := Lib.hid (by omega)
        have HRW : Hid (∀ W A9 c9, W.ownsRow w7.heap.size 32 4 (.slice A9 (0 + m + 1) c9) (0 + m + 1) ([] ++ (makeP cp l).flatMap chC ++ chC ⟨⟨#[109, 111, 114, 101]⟩, ⟨#[]⟩, ⟨#[]⟩, 0⟩) → Below w7.heap.size w7 W → Calls Tryd.prog 22 #[.slice A9 (m + 1) c9, .slice A' n' c', .agg #[.int .i64 cp.size, .int .i64 cp.maker, .int .i64 cp.tag]] W fun e w' => e = .returned (.bool false) ∧ Below w7.heap.size w7 w' ∧ w'.cell? ⟨w.heap.size, 0, none⟩ = some (.int .i64 cp.size) ∧ w'.cell? ⟨w.heap.size, 1, none⟩ = some (.int .i64 cp.maker) ∧ w'.cell? ⟨w.heap.size, 2, none⟩ = some (.int .i64 cp.tag)) := Lib.hid (fun W A9 c9 ho hb => by
          rw [Nat.zero_add] at ho
          have hBW : Below w.heap.size w W := HB7.out.trans (hb.mono HB7.out.size)
          have hrow : ChsAt W W.heap.size A9 (makeP cp l ++ [⟨⟨#[109, 111, 114, 101]⟩, ⟨#[]⟩, ⟨#[]⟩, 0⟩]) := by
            have h1 := RowIn.of_own ho
            unfold ChsAt
            rw [List.flatMap_append, List.length_append]
            rw [show [(⟨⟨#[109, 111, 114, 101]⟩, ⟨#[]⟩, ⟨#[]⟩, 0⟩ : Ch)].flatMap chC = chC ⟨⟨#[109, 111, 114, 101]⟩, ⟨#[]⟩, ⟨#[]⟩, 0⟩ from by simp]
            rw [show (makeP cp l).length + [(⟨⟨#[109, 111, 114, 101]⟩, ⟨#[]⟩, ⟨#[]⟩, 0⟩ : Ch)].length = m + 1 from by rw [HMm.out]; simp]
            exact h1
          refine (right_any W W.heap.size A9 A' (makeP cp l ++ [⟨⟨#[109, 111, 114, 101]⟩, ⟨#[]⟩, ⟨#[]⟩, 0⟩]) l (m + 1) n' c9 c' cp (by rw [List.length_append, HMm.out]; simp) HA'.out.len hrow (RowIn.more (HA'.out.at_.below hBW) hBW.size) (Nat.le_refl _) HA'.out.nil (by omega) (by omega) HSL.out.okc (HG.out.keep hBW (Nat.le_refl _))).mono ?_
          rintro e w' ⟨r, rfl, hr, hb'⟩
          have hb2 : Below w7.heap.size w7 w' := hb.trans (hb'.mono hb.size)
          obtain rfl : r = false := by
            cases r
            · rfl
            · have := congrArg List.length (hr.1 rfl)
              simp at this
          exact ⟨rfl, hb2, (hb2.cell (p := ⟨w.heap.size, 0, none⟩) zc7).trans q0, (hb2.cell (p := ⟨w.heap.size, 1, none⟩) zc7).trans q1, (hb2.cell (p := ⟨w.heap.size, 2, none⟩) zc7).trans q2⟩)
        have HAW : Hid (∀ W, Below w7.heap.size w7 W → Calls Tryd.prog 12 #[] W fun e w' => e = .returned (.bool true) ∧ Below w7.heap.size w7 w' ∧ w'.cell? ⟨w.heap.size, 0, none⟩ = some (.int .i64 cp.size) ∧ w'.cell? ⟨w.heap.size, 1, none⟩ = some (.int .i64 cp.maker) ∧ w'.cell? ⟨w.heap.size, 2, none⟩ = some (.int .i64 cp.tag)) := Lib.hid (fun W hb => by
          have hBW : Below w.heap.size w W := HB7.out.trans (hb.mono HB7.out.size)
          refine (awake_any W (HG.out.keep hBW (Nat.le_refl _))).mono ?_
          rintro e w' ⟨rfl, hb'⟩
          have hb2 : Below w7.heap.size w7 w' := hb.trans (hb'.mono hb.size)
          exact ⟨rfl, hb2, (hb2.cell (p := ⟨w.heap.size, 0, none⟩) zc7).trans q0, (hb2.cell (p := ⟨w.heap.size, 1, none⟩) zc7).trans q1, (hb2.cell (p := ⟨w.heap.size, 2, none⟩) zc7).trans q2⟩)
        have HR7 := Lib.hid hr7
        have HRE : Hid (RowIn (w7.alloc (.cells #[] 32)) w7.heap.size 4 A3 m ((makeP cp l).flatMap chC)) := Lib.hid (RowIn.alloc hr7 (Nat.le_refl _) _)
        have HRN : Hid (∀ o o2 : Obj, RowIn ((w7.alloc o).alloc o2) w7.heap.size 4 A3 m ((makeP cp l).flatMap chC)) := Lib.hid (fun o o2 => RowIn.alloc (RowIn.alloc hr7 (Nat.le_refl _) _) (by simp) _)
        have HOA := Lib.hid (own_empty w7 32 4)
        have HOC : Hid (∀ o : Obj, ((w7.alloc o).alloc (.cells #[] 32)).ownsRow w7.heap.size 32 4 (.slice (some ⟨w7.heap.size + 1, 0, none⟩) 0 0) 0 []) := Lib.hid (fun o => by
          have := own_empty (w7.alloc o) 32 4
          rw [show (w7.alloc o).heap.size = w7.heap.size + 1 from by simp] at this
          exact this.mono (by omega))
        have H1B : Hid (RowIn ((w7.alloc (.cells #[] 32)).alloc (.cells #[.string ⟨#[109, 111, 114, 101]⟩, .string ⟨#[]⟩, .string ⟨#[]⟩, .int .i64 0] 32)) (w7.heap.size + 2) 4 (some ⟨w7.heap.size + 1, 0, none⟩) 1 (chC ⟨⟨#[109, 111, 114, 101]⟩, ⟨#[]⟩, ⟨#[]⟩, 0⟩)) := Lib.hid (by
          have := one_row (w7.alloc (.cells #[] 32)) ⟨⟨#[109, 111, 114, 101]⟩, ⟨#[]⟩, ⟨#[]⟩, 0⟩ 32
          rw [show (w7.alloc (.cells #[] 32)).heap.size = w7.heap.size + 1 from by simp] at this
          exact this)
        have H1C : Hid (RowIn ((w7.alloc (.cells #[.string ⟨#[109, 111, 114, 101]⟩, .string ⟨#[]⟩, .string ⟨#[]⟩, .int .i64 0] 32)).alloc (.cells #[] 32)) (w7.heap.size + 1) 4 (some ⟨w7.heap.size, 0, none⟩) 1 (chC ⟨⟨#[109, 111, 114, 101]⟩, ⟨#[]⟩, ⟨#[]⟩, 0⟩)) := Lib.hid (RowIn.alloc (one_row w7 ⟨⟨#[109, 111, 114, 101]⟩, ⟨#[]⟩, ⟨#[]⟩, 0⟩ 32) (by simp) _)
        have HBA : Hid (∀ o : Obj, Below w7.heap.size w7 (w7.alloc o).drew) := Lib.hid (fun o => below_drew ((Below.refl _ _).alloc (Nat.le_refl _) _))
        have HBA0 : Hid (∀ o : Obj, Below w7.heap.size w7 (w7.alloc o)) := Lib.hid (fun o => (Below.refl _ _).alloc (Nat.le_refl _) _)
        have HBB : Hid (∀ o o2 : Obj, Below w7.heap.size w7 ((w7.alloc o).alloc o2).drew) := Lib.hid (fun o o2 => below_drew (((Below.refl _ _).alloc (Nat.le_refl _) _).alloc (by simp) _))
        have HBB0 : Hid (∀ o o2 : Obj, Below w7.heap.size w7 ((w7.alloc o).alloc o2)) := Lib.hid (fun o o2 => ((Below.refl _ _).alloc (Nat.le_refl _) _).alloc (by simp) _)
        have HBX : Hid (∀ (W : World) (o : Obj), Below w7.heap.size w7 W → Below w7.heap.size w7 (W.alloc o)) := Lib.hid (fun W o h => h.alloc h.size _)
        clear hr7
        go_wp2_with fail
        go_region_held3 (fun W => W.cell? ⟨w.heap.size, 0, none⟩ = some (.int .i64 cp.size) ∧ W.cell? ⟨w.heap.size, 1, none⟩ = some (.int .i64 cp.maker) ∧ W.cell? ⟨w.heap.size, 2, none⟩ = some (.int .i64 cp.tag))
          (first | (exact ⟨by assumption, by assumption, by assumption⟩) | go_keep)
          (first
            | (refine step_append_row _ (by rfl) (.tmp 46) (.tmp 47) 22 (by rfl) w7.heap.size 32 i0 _ 4 56 Tryd.underlying22 hi0 hz0 hz1 hz2 rfl (by decide) (.slice (some ⟨w7.heap.size, 0, none⟩) 0 0) 0 [] (by rfl) HOA.out w7.heap.size A3 m c3 _ (by rfl) HRE.out HNIL.out HONE.out P1.out P2.out (by simp <;> omega) ?_; intro v1 wx ho1 hg1 hv1; have b1 : Below w7.heap.size w7 wx := bel1 (by first | exact HBA.out _ | exact HBA0.out _ | exact HBB.out _ _ | exact HBB0.out _ _ | exact b1 | exact HBX.out _ _ b1) hg1 (fun j hj => by first | exact (ho1.lt _ hj).1 | (cases hj; exact Nat.le_refl _) | (cases hj; exact Nat.le_succ _)); have g0 : wx.cell? ⟨w.heap.size, 0, none⟩ = some (.int .i64 cp.size) := (b1.cell (p := ⟨w.heap.size, 0, none⟩) zc7).trans q0; have g1 : wx.cell? ⟨w.heap.size, 1, none⟩ = some (.int .i64 cp.maker) := (b1.cell (p := ⟨w.heap.size, 1, none⟩) zc7).trans q1; have g2 : wx.cell? ⟨w.heap.size, 2, none⟩ = some (.int .i64 cp.tag) := (b1.cell (p := ⟨w.heap.size, 2, none⟩) zc7).trans q2)
            | (refine step_append_row _ (by rfl) (.tmp 46) (.tmp 47) 22 (by rfl) w7.heap.size 32 i0 _ 4 56 Tryd.underlying22 hi0 hz0 hz1 hz2 rfl (by decide) (.slice (some ⟨w7.heap.size, 0, none⟩) 0 0) 0 [] (by rfl) (HOA.out.alloc _) w7.heap.size A3 m c3 _ (by rfl) (HRN.out _ _) HNIL.out HONE.out P1.out P2.out (by simp <;> omega) ?_; intro v1 wx ho1 hg1 hv1; have b1 : Below w7.heap.size w7 wx := bel1 (by first | exact HBA.out _ | exact HBA0.out _ | exact HBB.out _ _ | exact HBB0.out _ _ | exact b1 | exact HBX.out _ _ b1) hg1 (fun j hj => by first | exact (ho1.lt _ hj).1 | (cases hj; exact Nat.le_refl _) | (cases hj; exact Nat.le_succ _)); have g0 : wx.cell? ⟨w.heap.size, 0, none⟩ = some (.int .i64 cp.size) := (b1.cell (p := ⟨w.heap.size, 0, none⟩) zc7).trans q0; have g1 : wx.cell? ⟨w.heap.size, 1, none⟩ = some (.int .i64 cp.maker) := (b1.cell (p := ⟨w.heap.size, 1, none⟩) zc7).trans q1; have g2 : wx.cell? ⟨w.heap.size, 2, none⟩ = some (.int .i64 cp.tag) := (b1.cell (p := ⟨w.heap.size, 2, none⟩) zc7).trans q2)
            | (refine step_append_row _ (by rfl) (.tmp 46) (.tmp 47) 22 (by rfl) w7.heap.size 32 i0 _ 4 56 Tryd.underlying22 hi0 hz0 hz1 hz2 rfl (by decide) (.slice (some ⟨w7.heap.size + 1, 0, none⟩) 0 0) 0 [] (by rfl) (HOC.out _) w7.heap.size A3 m c3 _ (by rfl) (HRN.out _ _) HNIL.out HONE.out P1.out P2.out (by simp <;> omega) ?_; intro v1 wx ho1 hg1 hv1; have b1 : Below w7.heap.size w7 wx := bel1 (by first | exact HBA.out _ | exact HBA0.out _ | exact HBB.out _ _ | exact HBB0.out _ _ | exact b1 | exact HBX.out _ _ b1) hg1 (fun j hj => by first | exact (ho1.lt _ hj).1 | (cases hj; exact Nat.le_refl _) | (cases hj; exact Nat.le_succ _)); have g0 : wx.cell? ⟨w.heap.size, 0, none⟩ = some (.int .i64 cp.size) := (b1.cell (p := ⟨w.heap.size, 0, none⟩) zc7).trans q0; have g1 : wx.cell? ⟨w.heap.size, 1, none⟩ = some (.int .i64 cp.maker) := (b1.cell (p := ⟨w.heap.size, 1, none⟩) zc7).trans q1; have g2 : wx.cell? ⟨w.heap.size, 2, none⟩ = some (.int .i64 cp.tag) := (b1.cell (p := ⟨w.heap.size, 2, none⟩) zc7).trans q2)
            | (refine step_append_row _ (by rfl) (.tmp 48) (.tmp 50) 22 (by rfl) w7.heap.size 32 i0 _ 4 56 Tryd.underlying22 hi0 hz0 hz1 hz2 rfl (by decide) v1 (0 + m) ([] ++ (makeP cp l).flatMap chC) (by rfl) (ho1.alloc _) (wx.heap.size + 1) (some ⟨wx.heap.size, 0, none⟩) 1 1 (chC ⟨⟨#[109, 111, 114, 101]⟩, ⟨#[]⟩, ⟨#[]⟩, 0⟩) (by rfl) (one_row wx ⟨⟨#[109, 111, 114, 101]⟩, ⟨#[]⟩, ⟨#[]⟩, 0⟩ _) (fun h => by cases h) HONX.out P3.out P4.out (Nat.le_trans b1.size (by simp)) ?_; intro v2 wy ho2 hg2 hv2; have b2 : Below w7.heap.size w7 wy := bel1 (by first | exact HBA.out _ | exact HBA0.out _ | exact HBB.out _ _ | exact HBB0.out _ _ | exact b1 | exact HBX.out _ _ b1) hg2 (fun j hj => by first | exact (ho1.lt _ hj).1 | (cases hj; exact Nat.le_refl _) | (cases hj; exact Nat.le_succ _)); have y0 : wy.cell? ⟨w.heap.size, 0, none⟩ = some (.int .i64 cp.size) := (b2.cell (p := ⟨w.heap.size, 0, none⟩) zc7).trans q0; have y1 : wy.cell? ⟨w.heap.size, 1, none⟩ = some (.int .i64 cp.maker) := (b2.cell (p := ⟨w.heap.size, 1, none⟩) zc7).trans q1; have y2 : wy.cell? ⟨w.heap.size, 2, none⟩ = some (.int .i64 cp.tag) := (b2.cell (p := ⟨w.heap.size, 2, none⟩) zc7).trans q2; obtain ⟨A9, c9, hr9⟩ := own_shape ho2; subst hr9)
            | (refine step_append_row _ (by rfl) (.tmp 48) (.tmp 50) 22 (by rfl) w7.heap.size 32 i0 _ 4 56 Tryd.underlying22 hi0 hz0 hz1 hz2 rfl (by decide) v1 (0 + m) ([] ++ (makeP cp l).flatMap chC) (by rfl) ho1 (w7.heap.size + 2) (some ⟨w7.heap.size + 1, 0, none⟩) 1 1 (chC ⟨⟨#[109, 111, 114, 101]⟩, ⟨#[]⟩, ⟨#[]⟩, 0⟩) (by rfl) (row_grown (RowIn.drew H1B.out) (by simp <;> omega) (by simp [Value.ownBlock] <;> omega) hg1) (fun h => by cases h) HONX.out P3.out P4.out (Nat.le_trans b1.size (by simp)) ?_; intro v2 wy ho2 hg2 hv2; have b2 : Below w7.heap.size w7 wy := bel1 (by first | exact HBA.out _ | exact HBA0.out _ | exact HBB.out _ _ | exact HBB0.out _ _ | exact b1 | exact HBX.out _ _ b1) hg2 (fun j hj => by first | exact (ho1.lt _ hj).1 | (cases hj; exact Nat.le_refl _) | (cases hj; exact Nat.le_succ _)); have y0 : wy.cell? ⟨w.heap.size, 0, none⟩ = some (.int .i64 cp.size) := (b2.cell (p := ⟨w.heap.size, 0, none⟩) zc7).trans q0; have y1 : wy.cell? ⟨w.heap.size, 1, none⟩ = some (.int .i64 cp.maker) := (b2.cell (p := ⟨w.heap.size, 1, none⟩) zc7).trans q1; have y2 : wy.cell? ⟨w.heap.size, 2, none⟩ = some (.int .i64 cp.tag) := (b2.cell (p := ⟨w.heap.size, 2, none⟩) zc7).trans q2; obtain ⟨A9, c9, hr9⟩ := own_shape ho2; subst hr9)
            | (refine step_append_row _ (by rfl) (.tmp 48) (.tmp 50) 22 (by rfl) w7.heap.size 32 i0 _ 4 56 Tryd.underlying22 hi0 hz0 hz1 hz2 rfl (by decide) v1 (0 + m) ([] ++ (makeP cp l).flatMap chC) (by rfl) ho1 (w7.heap.size + 1) (some ⟨w7.heap.size, 0, none⟩) 1 1 (chC ⟨⟨#[109, 111, 114, 101]⟩, ⟨#[]⟩, ⟨#[]⟩, 0⟩) (by rfl) (row_grown (RowIn.drew H1C.out) (by simp <;> omega) (by simp [Value.ownBlock] <;> omega) hg1) (fun h => by cases h) HONX.out P3.out P4.out (Nat.le_trans b1.size (by simp)) ?_; intro v2 wy ho2 hg2 hv2; have b2 : Below w7.heap.size w7 wy := bel1 (by first | exact HBA.out _ | exact HBA0.out _ | exact HBB.out _ _ | exact HBB0.out _ _ | exact b1 | exact HBX.out _ _ b1) hg2 (fun j hj => by first | exact (ho1.lt _ hj).1 | (cases hj; exact Nat.le_refl _) | (cases hj; exact Nat.le_succ _)); have y0 : wy.cell? ⟨w.heap.size, 0, none⟩ = some (.int .i64 cp.size) := (b2.cell (p := ⟨w.heap.size, 0, none⟩) zc7).trans q0; have y1 : wy.cell? ⟨w.heap.size, 1, none⟩ = some (.int .i64 cp.maker) := (b2.cell (p := ⟨w.heap.size, 1, none⟩) zc7).trans q1; have y2 : wy.cell? ⟨w.heap.size, 2, none⟩ = some (.int .i64 cp.tag) := (b2.cell (p := ⟨w.heap.size, 2, none⟩) zc7).trans q2; obtain ⟨A9, c9, hr9⟩ := own_shape ho2; subst hr9)
            | (go_at_call 22; (with_reducible refine (HRW.out _ _ _ ho2 b2).mono ?_); rintro e w' ⟨rfl, b3, y3, y4, y5⟩)
            | (go_at_call 12; (with_reducible refine (HAW.out _ b3).mono ?_); rintro e w'' ⟨rfl, b4, y6, y7, y8⟩)
            | fail)
        all_goals (go_wp2_with fail; go_ret; exact ⟨rfl, HB7.out.trans (b4.mono HB7.out.size)⟩)
    · have HW := Lib.hid (awake_any w2 (HG.out.keep HB2.out (Nat.le_refl _)))
      clear hr
      go_wp2_with fail
      refine HW.out.mono ?_
      rintro e w5 ⟨rfl, hb5⟩
      have HB5 : Hid (Below w.heap.size w w5) := Lib.hid (HB2.out.trans (hb5.mono HB2.out.size))
      clear hb5 HW
      go_wp2_with fail
      go_ret
      exact ⟨rfl, HB5.out⟩
  · have HW := Lib.hid (awake_any w1 (HG.out.keep HB1.out (Nat.le_refl _)))
    clear hr
    go_wp2_with fail
    refine HW.out.mono ?_
    rintro e w5 ⟨rfl, hb5⟩
    have HB5 : Hid (Below w.heap.size w w5) := Lib.hid (HB1.out.trans (hb5.mono HB1.out.size))
    clear hb5 HW
    go_wp2_with fail
    go_ret
    exact ⟨rfl, HB5.out⟩

end Go.Proofs.YtiaklkfdgnhonaaDoor
