/- Rows that are handed in; long, Same of counts, awake. -/
import Derived.Test.YtnkglbiakjnfjaaDoorCrTaste
namespace Go.Proofs.YtnkglbiakjnfjaaDoor
open Go.Shelf Go.RowKit Go.Maps
set_option linter.unusedVariables false

/-- Rows that were handed in: events, and tags. -/
abbrev Ri := Rd × List ByteArray
def RiOk (w : World) (x : Ri) : Prop := EvBd x.1.e ∧ x.1.n = x.2.length ∧ RowIn w w.heap.size 1 x.1.A x.1.n (x.2.map .string) ∧ x.1.n ≤ maxLen ∧ (x.1.A = none → x.1.c = 0) ∧ ∀ t ∈ x.2, t.size ≤ maxLen
def RwArg (w : World) (A : Option Addr) (n c : Nat) (l : List Ri) : Prop := l.length = n ∧ RowIn w w.heap.size 9 A n ((l.map (·.1)).flatMap rdC) ∧ n ≤ 140737488355328 ∧ (A = none → c = 0) ∧ ∀ x ∈ l, RiOk w x
def rwOf (x : Ri) : Rw := ⟨x.1.e, x.2⟩
/-- Short rows. -/
def RiSmall (x : Ri) : Prop := x.2.length ≤ 12 ∧ EvSh x.1.e
def RisSmall (l : List Ri) : Prop := ∀ x ∈ l, RiSmall x
theorem rdAr_at {w : World} {g : Nat} {t : TypeId} {r : Rd} (h : Blk w g t (rdAr r)) : RdAt w g 0 r := ⟨h.cell 0, h.cell 1, h.cell 2, h.cell 3, h.cell 4, h.cell 5, h.cell 6, h.cell 7, h.cell 8⟩

set_option maxHeartbeats 2000000 in
set_option maxRecDepth 100000 in
theorem long_any (w : World) (A : Option Addr) (l : List Ri) (n c : Nat) (ha : RwArg w A n c l) :
    Calls Tryd.prog 11 #[.slice A n c] w fun e w' => ∃ b : Bool, e = .returned (.bool b) ∧ (b = false → n ≤ 40 ∧ RisSmall l) ∧ Below w.heap.size w w' := by
  obtain ⟨hn, hl, hb, _, hok⟩ := ha
  have HN := Lib.hid hn
  have HL := Lib.hid hl
  have HOK := Lib.hid hok
  clear hn hl hok
  go_enter Tryd.func11, Tryd.ntmps11
  go_wp2_with fail
  go_loopw [7] (fun i wr => ∃ k : Nat, k ≤ n ∧ i = .int .i64 k ∧ Hid (∀ j x, j < k → l[j]? = some x → RiSmall x) ∧ Hid (Below w.heap.size w wr)) (fun i _ => n - (intOf i).toNat)
  case atStart => exact ⟨0, Nat.zero_le _, rfl, Lib.hid (fun j t hj => by omega), Lib.hid (Below.refl _ _)⟩
  case round =>
    obtain ⟨k, hk, rfl, hsm, hbw⟩ := hrel
    by_cases hlt : k < n
    · obtain ⟨x, hx⟩ : ∃ x, l[k]? = some x := ⟨l[k]'(by rw [HN.out]; exact hlt), List.getElem?_eq_getElem _⟩
      obtain ⟨g, o, rfl, hgB, hcl⟩ := rds_at HL.out (by omega)
      obtain ⟨e0, e1, e2, e3, e4, e5, e6, e7, e8⟩ : RdAt wr g (o + k * 9) x.1 := (hcl k x.1 (by simp [hx])).keep (fun j => hbw.out.cell (p := ⟨g, j, none⟩) hgB)
      have HX := Lib.hid hx
      have HXO := Lib.hid (HOK.out x (List.mem_of_getElem? hx))
      obtain ⟨hb0, hb1, hb2, hb3⟩ := HXO.out.1
      have hbn := HXO.out.2.2.2.1
      unfold maxLen at hbn
      have HNL : Hid (x.1.n = x.2.length) := Lib.hid HXO.out.2.1
      have hk8 : (k : Int) < (n : Int) := by omega
      have hk9 : (0 : Int) ≤ (k : Int) := by omega
      have hwz := hbw.out.size
      obtain ⟨w3, hw3⟩ : ∃ w3, wr.alloc (.cells (rdAr x.1) 51) = w3 := ⟨_, rfl⟩
      have HBX : Hid (Blk w3 wr.heap.size 51 (rdAr x.1)) := Lib.hid (by rw [← hw3]; exact Blk.new _ _ _)
      have HB3 : Hid (Below w.heap.size w w3) := Lib.hid (by rw [← hw3]; exact hbw.out.alloc hwz _)
      obtain ⟨d0, d1, d2, d3, d4, d5, d6, d7, d8⟩ : w3.cell? ⟨wr.heap.size, 0, none⟩ = some (.string x.1.e.src) ∧ w3.cell? ⟨wr.heap.size, 1, none⟩ = some (.int .i64 x.1.e.num) ∧ w3.cell? ⟨wr.heap.size, 2, none⟩ = some (.int .i64 x.1.e.tick) ∧ w3.cell? ⟨wr.heap.size, 3, none⟩ = some (.int .i64 x.1.e.kind) ∧ w3.cell? ⟨wr.heap.size, 4, none⟩ = some (.string x.1.e.person) ∧ w3.cell? ⟨wr.heap.size, 5, none⟩ = some (.string x.1.e.item) ∧ w3.cell? ⟨wr.heap.size, 6, none⟩ = some (.int .i64 x.1.e.value) ∧ w3.cell? ⟨wr.heap.size, 7, none⟩ = some (.string x.1.e.text) ∧ w3.cell? ⟨wr.heap.size, 8, none⟩ = some (.slice x.1.A x.1.n x.1.c) := ⟨HBX.out.cell 0, HBX.out.cell 1, HBX.out.cell 2, HBX.out.cell 3, HBX.out.cell 4, HBX.out.cell 5, HBX.out.cell 6, HBX.out.cell 7, HBX.out.cell 8⟩
      unfold rdAr at hw3
      clear hcl hx
      by_cases q1 : (12 : Int) < (x.1.n : Int)
      · go_wp2_with fail
        go_ret
        first | exact ⟨true, rfl, fun h => (by cases h), HB3.out⟩ | exact Or.inr ⟨rfl, HB3.out⟩
      have r1 : decide ((12 : Int) < (x.1.n : Int)) = false := decide_eq_false q1
      by_cases q2 : (300 : Int) < (x.1.e.text.size : Int)
      · go_wp2_with fail
        go_ret
        first | exact ⟨true, rfl, fun h => (by cases h), HB3.out⟩ | exact Or.inr ⟨rfl, HB3.out⟩
      have r2 : decide ((300 : Int) < (x.1.e.text.size : Int)) = false := decide_eq_false q2
      by_cases q3 : (120 : Int) < (x.1.e.src.size : Int) + (x.1.e.person.size : Int) + (x.1.e.item.size : Int)
      · go_wp2_with fail
        go_ret
        first | exact ⟨true, rfl, fun h => (by cases h), HB3.out⟩ | exact Or.inr ⟨rfl, HB3.out⟩
      have r3 : decide ((120 : Int) < (x.1.e.src.size : Int) + (x.1.e.person.size : Int) + (x.1.e.item.size : Int)) = false := decide_eq_false q3
      have HSM : Hid (RiSmall x) := Lib.hid ⟨by rw [← HNL.out]; omega, by omega, by omega, by omega, by omega⟩
      go_wp2_with fail
      go_roundw
      case rel =>
        refine ⟨k + 1, by omega, by go_num, Lib.hid (fun j y hj hy => ?_), HB3⟩
        by_cases e : j = k
        · subst e; rw [HX.out] at hy; cases hy; exact HSM.out
        · exact hsm.out j y (by omega) hy
      case measure => simp [intOf]; omega
    · have HALL : Hid (RisSmall l) := Lib.hid (fun x hx => by
        obtain ⟨j, hj⟩ := List.mem_iff_getElem?.1 hx
        have := (List.getElem?_eq_some_iff.1 hj).1
        rw [HN.out] at this
        exact hsm.out j x (by omega) hj)
      by_cases q : (40 : Int) < (n : Int)
      · go_wp2_with fail
        go_ret
        first | exact ⟨true, rfl, fun h => (by cases h), hbw.out⟩ | exact Or.inr ⟨rfl, hbw.out⟩
      · have r : decide ((40 : Int) < (n : Int)) = false := decide_eq_false q
        go_wp2_with fail
        go_ret
        first | exact ⟨false, rfl, fun _ => ⟨by omega, HALL.out⟩, hbw.out⟩ | exact Or.inl ⟨rfl, ⟨by omega, HALL.out⟩, hbw.out⟩

theorem cts_at {w : World} {B : Nat} {A : Option Addr} {n : Nat} {l : List Ct} (h : RowIn w B 2 A n (l.flatMap ctC)) (hn : 0 < n) : ∃ b off, A = some ⟨b, off, none⟩ ∧ b < B ∧ ∀ i x, l[i]? = some x → w.cell? ⟨b, off + i * 2, none⟩ = some (.string x.key) ∧ w.cell? ⟨b, off + i * 2 + 1, none⟩ = some (.int .i64 x.n) := by
  obtain ⟨b, off, hA, hb, hc⟩ := h.at hn
  refine ⟨b, off, hA, hb, fun i x hx => ?_⟩
  have g := fun j (hj : j < 2) => flat_get ctC 2 ctC_len l i j x hx hj
  have k := fun j (hj : j < 2) u (hu : (ctC x)[j]? = some u) => hc (i * 2 + j) u ((g j hj).trans hu)
  simp only [← Nat.add_assoc] at k
  exact ⟨k 0 (by omega) _ rfl, k 1 (by omega) _ rfl⟩
set_option maxHeartbeats 2000000 in
set_option maxRecDepth 100000 in
theorem same10_any (w : World) (B B' : Nat) (A A' : Option Addr) (L : List Ct) (n c c' : Nat) (hn : L.length = n) (h1 : RowIn w B 2 A n (L.flatMap ctC)) (h2 : RowIn w B' 2 A' n (L.flatMap ctC)) (hb : n ≤ 1000000) :
    Calls Tryd.prog 14 #[.slice A n c, .slice A' n c'] w fun e w' => e = .returned (.bool true) ∧ Below w.heap.size w w' := by
  have HN := Lib.hid hn
  have H1 := Lib.hid h1
  have H2 := Lib.hid h2
  have qn : ((n : Int) != (n : Int)) = false := by simp
  clear hn h1 h2
  go_enter Tryd.func14, Tryd.ntmps14
  go_wp2_with fail
  go_loopw [5] (fun i wr => ∃ k : Nat, k ≤ n ∧ i = .int .i64 k ∧ Hid (∃ q, wr = w.drewN q)) (fun i _ => n - (intOf i).toNat)
  case atStart => exact ⟨0, Nat.zero_le _, rfl, Lib.hid ⟨0, rfl⟩⟩
  case round =>
    obtain ⟨k, hk, rfl, hbw⟩ := hrel
    obtain ⟨q, hq⟩ := hbw.out
    by_cases hlt : k < n
    · obtain ⟨x, hx⟩ : ∃ x, L[k]? = some x := ⟨L[k]'(by rw [HN.out]; exact hlt), List.getElem?_eq_getElem _⟩
      obtain ⟨g, o, rfl, _, hc⟩ := cts_at H1.out (by omega)
      obtain ⟨g2, o2, rfl, _, hc2⟩ := cts_at H2.out (by omega)
      have e0 : wr.cell? ⟨g, o + k * 2, none⟩ = some (.string x.key) := by rw [hq]; exact (hc k x hx).1
      have e1 : wr.cell? ⟨g, o + k * 2 + 1, none⟩ = some (.int .i64 x.n) := by rw [hq]; exact (hc k x hx).2
      have d0 : wr.cell? ⟨g2, o2 + k * 2, none⟩ = some (.string x.key) := by rw [hq]; exact (hc2 k x hx).1
      have d1 : wr.cell? ⟨g2, o2 + k * 2 + 1, none⟩ = some (.int .i64 x.n) := by rw [hq]; exact (hc2 k x hx).2
      have hk8 : (k : Int) < (n : Int) := by omega
      have hk9 : (0 : Int) ≤ (k : Int) := by omega
      clear hx hc hc2 hq
      go_wp2_with fail
      go_quiet (fail)
      have HQ : Hid (∃ q, wr.drewN nq = w.drewN q) := Lib.hid (by obtain ⟨q, hq⟩ := hbw.out; exact ⟨q + nq, by rw [hq, World.drewN_drewN]⟩)
      go_wp2_with fail
      go_roundw
      case rel => exact ⟨k + 1, by omega, by go_num, HQ⟩
      case measure => simp [intOf]; omega
    · have HB : Hid (Below w.heap.size w wr) := Lib.hid (by rw [hq]; exact below_drewN (Below.refl _ _) _)
      clear hq
      go_wp2_with fail
      go_ret
      exact ⟨rfl, HB.out⟩

/-! ### awake -/
def aw1 : Ev := ⟨⟨#[115]⟩, 1, 0, 1, ⟨#[112]⟩, ⟨#[97]⟩, 0, ⟨#[]⟩⟩
def aw2 : Ev := ⟨⟨#[115]⟩, 2, 10, 3, ⟨#[112]⟩, ⟨#[97]⟩, 0, ⟨#[]⟩⟩
def awR : List Rw := [⟨aw1, [⟨#[120]⟩]⟩, ⟨aw2, [⟨#[120]⟩]⟩]
theorem aw_t1 : takesC [] aw1 = true := by kernel_rfl
theorem aw_tg : tagsP [⟨#[120]⟩] = [⟨#[120]⟩] := by
  have h : nameB ⟨#[120]⟩ = true := by kernel_rfl
  simp [tagsP, tagStep, h, memB]
theorem aw_a1 : aftC [] ⟨aw1, [⟨#[120]⟩]⟩ = [⟨aw1, [⟨#[120]⟩]⟩] := by unfold aftC; rw [show takesC [] (⟨aw1, [⟨#[120]⟩]⟩ : Rw).e = true from aw_t1, if_pos rfl, aw_tg]; rfl
theorem aw_t2 : takesC [⟨aw1, [⟨#[120]⟩]⟩] aw2 = true := by kernel_rfl
theorem aw_a2 : aftC [⟨aw1, [⟨#[120]⟩]⟩] ⟨aw2, [⟨#[120]⟩]⟩ = awR := by unfold aftC; rw [show takesC [⟨aw1, [⟨#[120]⟩]⟩] (⟨aw2, [⟨#[120]⟩]⟩ : Rw).e = true from aw_t2, if_pos rfl, aw_tg]; rfl
theorem aw_w1 : rowW 10 10 ⟨aw1, [⟨#[120]⟩]⟩ = 524288 := by kernel_rfl
theorem aw_w2 : rowW 10 10 ⟨aw2, [⟨#[120]⟩]⟩ = 5242880 := by kernel_rfl
theorem aw_taste : IsTaste awR 10 ⟨#[112]⟩ 10 [⟨⟨#[120]⟩, 5767168⟩] := by
  have ho : ownC awR ⟨#[112]⟩ = awR := by kernel_rfl
  have hs : ∀ t, (skL 10 10 awR).S t = if t = ⟨#[120]⟩ then 5767168 else 0 := fun t => by
    unfold skL awR
    simp only [List.foldl_cons, List.foldl_nil]
    unfold skR
    rw [if_pos (show (⟨aw2, [⟨#[120]⟩]⟩ : Rw).e.tick ≤ 10 by decide), if_pos (show (⟨aw1, [⟨#[120]⟩]⟩ : Rw).e.tick ≤ 10 by decide), aw_w1, aw_w2]
    simp only [List.foldl_cons, List.foldl_nil]
    unfold skT sk0
    simp only
    split <;> simp
  refine ⟨List.pairwise_singleton _ _, fun x => ?_⟩
  rw [ho, hs, List.mem_singleton]
  constructor
  · rintro rfl; simp
  · rintro ⟨h1, h2⟩
    by_cases e : x.key = ⟨#[120]⟩
    · rw [if_pos e] at h2
      cases x
      simp only at e h2
      rw [e, h2]
    · rw [if_neg e] at h2; omega
theorem aw_h : halfP 10 = 10 := rfl
theorem aw_s1 : EvSh aw1 := ⟨by decide, by decide, by decide, by decide⟩
theorem aw_s2 : EvSh aw2 := ⟨by decide, by decide, by decide, by decide⟩
theorem aw_row (w : World) : RowIn (w.alloc (.cells #[.string ⟨#[120]⟩] 9)) (w.alloc (.cells #[.string ⟨#[120]⟩] 9)).heap.size 1 (some ⟨w.heap.size, 0, none⟩) 1 (([⟨#[120]⟩] : List ByteArray).map .string) := (one_str w ⟨#[120]⟩ 9).more (by simp)

set_option maxHeartbeats 4000000 in
set_option maxRecDepth 100000 in
theorem awake_any (w : World) (hg : GlobAt w) : Calls Tryd.prog 12 #[] w fun e w' => e = .returned (.bool true) ∧ Below w.heap.size w w' := by
  have HG := Lib.hid hg
  have HNW := Lib.hid (new_any 10 w)
  rw [aw_h] at HNW
  clear hg
  go_enter Tryd.func12, Tryd.ntmps12
  go_wp2_with fail
  refine HNW.out.mono ?_
  rintro e w1 ⟨cb, U1, rfl, hc1, hu1, hb1⟩
  obtain ⟨w2, hw2⟩ : ∃ w2, w1.alloc (.cells #[.string ⟨#[120]⟩] 9) = w2 := ⟨_, rfl⟩
  have HB1 := Lib.hid hb1
  have HB2 : Hid (Below w.heap.size w w2) := Lib.hid (by rw [← hw2]; exact hb1.alloc hb1.size _)
  have HU1 := Lib.hid hu1
  have HA1 : Hid (Calls Tryd.prog 21 #[.pointer (some ⟨cb, 0, none⟩), evA aw1, .slice (some ⟨w1.heap.size, 0, none⟩) 1 1] w2 fun e w' => e = .returned (.bool (takesC [] aw1)) ∧ ∃ U' : Nat → Prop, CrAt w' cb 10 U' (aftC [] ⟨aw1, [⟨#[120]⟩]⟩) ∧ (∀ q, U1 q → U' q) ∧ (∀ q, U' q → U1 q ∨ w2.heap.size ≤ q) ∧ Kept U1 w2 w') := Lib.hid (by
    have hr := aw_row w1
    rw [hw2] at hr
    refine apply_any w2 cb 10 U1 [] aw1 _ [⟨#[120]⟩] 1 1 (hc1.below (by rw [← hw2]; exact (Below.refl _ _).alloc (Nat.le_refl _) _)) aw_s1 rfl hr (fun t ht => by simp at ht; subst ht; unfold maxLen; decide) (HG.out.keep HB2.out (Nat.le_refl _)) (Nat.zero_le _) (by omega) (fun _ ad ha hu => ?_)
    cases ha
    have := hc1.lt _ hu
    simp at this)
  rw [aw_t1, aw_a1] at HA1
  clear hc1 hu1 hb1 HNW
  unfold evA aw1 at HA1
  dsimp only at HA1
  go_wp2_with fail
  refine HA1.out.mono ?_
  rintro e w3 ⟨rfl, U3, hc3, hs3, hn3, hk3⟩
  have HK3 : Hid (Below w.heap.size w w3) := Lib.hid (HB2.out.trans (hk3.toBelow (B := w.heap.size) (fun i hi => HU1.out i hi) HB2.out.size))
  obtain ⟨w4, hw4⟩ : ∃ w4, w3.alloc (.cells #[.string ⟨#[120]⟩] 9) = w4 := ⟨_, rfl⟩
  have HB4 : Hid (Below w.heap.size w w4) := Lib.hid (by rw [← hw4]; exact HK3.out.alloc HK3.out.size _)
  have HU3 : Hid (∀ q, U3 q → w.heap.size ≤ q) := Lib.hid (fun q hq => (hn3 q hq).elim (fun h => HU1.out q h) (fun h => Nat.le_trans HB2.out.size h))
  have HA2 : Hid (Calls Tryd.prog 21 #[.pointer (some ⟨cb, 0, none⟩), evA aw2, .slice (some ⟨w3.heap.size, 0, none⟩) 1 1] w4 fun e w' => e = .returned (.bool (takesC [⟨aw1, [⟨#[120]⟩]⟩] aw2)) ∧ ∃ U' : Nat → Prop, CrAt w' cb 10 U' (aftC [⟨aw1, [⟨#[120]⟩]⟩] ⟨aw2, [⟨#[120]⟩]⟩) ∧ (∀ q, U3 q → U' q) ∧ (∀ q, U' q → U3 q ∨ w4.heap.size ≤ q) ∧ Kept U3 w4 w') := Lib.hid (by
    have hr := aw_row w3
    rw [hw4] at hr
    refine apply_any w4 cb 10 U3 [⟨aw1, [⟨#[120]⟩]⟩] aw2 _ [⟨#[120]⟩] 1 1 (hc3.below (by rw [← hw4]; exact (Below.refl _ _).alloc (Nat.le_refl _) _)) aw_s2 rfl hr (fun t ht => by simp at ht; subst ht; unfold maxLen; decide) (HG.out.keep HB4.out (Nat.le_refl _)) (by simp) (by omega) (fun _ ad ha hu => ?_)
    cases ha
    have := hc3.lt _ hu
    simp at this)
  rw [aw_t2, aw_a2] at HA2
  clear hc3 hs3 hn3 hk3 HA1 hw2
  unfold evA aw2 at HA2
  dsimp only at HA2
  go_wp2_with fail
  refine HA2.out.mono ?_
  rintro e w5 ⟨rfl, U5, hc5, hs5, hn5, hk5⟩
  have HB5 : Hid (Below w.heap.size w w5) := Lib.hid (HB4.out.trans (hk5.toBelow (B := w.heap.size) (fun i hi => HU3.out i hi) HB4.out.size))
  have HTS := Lib.hid (taste_any w5 cb 10 U5 awR ⟨#[112]⟩ 10 hc5 (by unfold maxLen; decide) (by omega) (by omega) (by decide) (by omega) (by omega))
  clear hc5 hs5 hn5 hk5 HA2 hw4
  go_wp2_with fail
  refine HTS.out.mono ?_
  rintro e w6 ⟨A6, c6, L, rfl, hL, _, hrow, hb6⟩
  obtain rfl : [⟨⟨#[120]⟩, 5767168⟩] = L := aw_taste.one hL (fun t => rfl)
  obtain ⟨g, o, rfl, _, hc⟩ := cts_at hrow (by simp)
  obtain ⟨e0, e1⟩ := hc 0 ⟨⟨#[120]⟩, 5767168⟩ rfl
  simp only [Nat.zero_mul, Nat.add_zero] at e0 e1
  have HB6 : Hid (Below w.heap.size w w6) := Lib.hid (HB5.out.trans (hb6.mono HB5.out.size))
  clear hL hrow hb6 hc HTS
  go_wp2_with fail
  go_ret
  exact ⟨rfl, HB6.out⟩

end Go.Proofs.YtnkglbiakjnfjaaDoor
