/- All, Single, Count; Some, long, awake. -/
import Derived.Test.YtcgangmmehbdoaaDoorBkOf
namespace Go.Proofs.YtcgangmmehbdoaaDoor
open Go.Shelf Go.RowKit Go.Maps
set_option linter.unusedVariables false

theorem all_any (w : World) (bb base : Nat) (Bs : List Bsk) (h : BkAt w bb base Bs) :
    Calls Tryd.prog 13 #[.pointer (some ⟨bb, 0, none⟩)] w fun e w' => e = .returned (.int .i64 Bs.length) ∧ w = w' := by
  obtain ⟨sb, cb, n1, n2, h1, _⟩ := h
  have c0 : w.cell? ⟨bb, 0, none⟩ = some (.int .i64 Bs.length) := h1.blk.cell 0
  clear h1
  go_enter Tryd.func13, Tryd.ntmps13
  go_wp2_with fail
  go_ret
  exact ⟨rfl, rfl⟩
theorem single_any (w : World) (bb base : Nat) (Bs : List Bsk) (x : ByteArray) (h : BkAt w bb base Bs) (hx : x.size ≤ maxLen) :
    Calls Tryd.prog 14 #[.pointer (some ⟨bb, 0, none⟩), .string x] w fun e w' => e = .returned (.int .i64 (nS Bs x)) ∧ w = w' := by
  obtain ⟨sb, cb, n1, n2, h1, _⟩ := h
  have c1 : w.cell? ⟨bb, 1, none⟩ = some (.map (some sb)) := h1.blk.cell 1
  have HM := Lib.hid h1.sg
  have HV : Hid ((mapG (cntG (nS Bs)) (.string x.data.toList)).getD (.int .i64 0) = .int .i64 (nS Bs x)) := Lib.hid (by rw [mapG_at, cntG_get])
  clear h1
  go_enter Tryd.func14, Tryd.ntmps14
  go_wp2_with (first
    | (at_lookup; refine wpList_lookM _ rfl _ _ 50 rfl 9 3 (string_keyed Tryd.underlying9) Tryd.underlying50 okInt _ (zeroInt _) rfl sb _ _ rfl HM.out _ _ rfl (WideMaps.keyOf_string_mk Tryd.underlying9 hx) _ HV.out ?_)
    | fail)
  go_ret
  exact ⟨rfl, rfl⟩
theorem count_any (w : World) (bb base : Nat) (Bs : List Bsk) (x y : ByteArray) (h : BkAt w bb base Bs) (hx : x.size ≤ maxLen) (hy : y.size ≤ maxLen) :
    Calls Tryd.prog 15 #[.pointer (some ⟨bb, 0, none⟩), .string x, .string y] w fun e w' => e = .returned (.int .i64 (nC Bs x y)) ∧ w = w' := by
  obtain ⟨sb, cb, n1, n2, h1, _⟩ := h
  have c2 : w.cell? ⟨bb, 2, none⟩ = some (.map (some cb)) := h1.blk.cell 2
  obtain ⟨M, hM, hC⟩ := h1.ct
  have HM := Lib.hid hM
  have HV := Lib.hid (hC.get hx hy)
  clear h1 hM hC
  go_enter Tryd.func15, Tryd.ntmps15
  go_wp2_with (first
    | (at_lookup; refine wpList_lookM _ rfl _ _ 51 rfl 69 3 twoKeyed Tryd.underlying51 okInt _ (zeroInt _) rfl cb _ _ rfl HM.out _ _ rfl (two_keyOf x y hx hy) _ HV.out ?_)
    | fail)
  go_ret
  exact ⟨rfl, rfl⟩

/-- The texts of an event are short. -/
def EvSmall (e : Ev) : Prop := e.src.size ≤ 100 ∧ e.person.size ≤ 100 ∧ e.item.size ≤ 100 ∧ e.text.size ≤ 100
theorem EvSmall.sh {e : Ev} (h : EvSmall e) : EvSh e := by obtain ⟨h1, h2, h3, h4⟩ := h; exact ⟨by omega, by omega, by omega, by omega⟩

set_option maxHeartbeats 1000000 in
set_option maxRecDepth 100000 in
theorem big_any (x : Ev) (w : World) (hb : EvBd x) :
    Calls Tryd.prog 39 #[evA x, .int .i64 100] w fun e w' => ∃ b : Bool, e = .returned (.bool b) ∧ (b = false → EvSmall x) ∧ Below w.heap.size w w' := by
  obtain ⟨s0, n0, t0, k0, p0, i0, v0, x0⟩ := x
  obtain ⟨h0, h1, h2, h3⟩ := hb
  dsimp only at h0 h1 h2 h3
  have HES : Hid (EvSmall ⟨s0, n0, t0, k0, p0, i0, v0, x0⟩ ↔ (s0.size ≤ 100 ∧ p0.size ≤ 100 ∧ i0.size ≤ 100 ∧ x0.size ≤ 100)) := Lib.hid Iff.rfl
  unfold evA
  dsimp only
  obtain ⟨w1, hw1⟩ : ∃ w1, w.alloc (.cells #[.string s0, .int .i64 n0, .int .i64 t0, .int .i64 k0, .string p0, .string i0, .int .i64 v0, .string x0] 33) = w1 := ⟨_, rfl⟩
  have bl : Blk w1 w.heap.size 33 #[.string s0, .int .i64 n0, .int .i64 t0, .int .i64 k0, .string p0, .string i0, .int .i64 v0, .string x0] := by rw [← hw1]; exact Blk.new _ _ _
  have HB1 : Hid (Below w.heap.size w w1) := Lib.hid (by rw [← hw1]; exact (Below.refl _ _).alloc (Nat.le_refl _) _)
  have c0 : w1.cell? ⟨w.heap.size, 0, none⟩ = some (.string s0) := bl.cell 0
  have c4 : w1.cell? ⟨w.heap.size, 4, none⟩ = some (.string p0) := bl.cell 4
  have c5 : w1.cell? ⟨w.heap.size, 5, none⟩ = some (.string i0) := bl.cell 5
  have c7 : w1.cell? ⟨w.heap.size, 7, none⟩ = some (.string x0) := bl.cell 7
  clear bl
  by_cases q0 : (100 : Int) < (s0.size : Int)
  · go_enter Tryd.func39, Tryd.ntmps39
    go_wp2_with fail
    go_ret
    first | exact ⟨true, rfl, fun h => (by cases h), HB1.out⟩ | exact Or.inr ⟨rfl, HB1.out⟩
  have d0 : decide ((100 : Int) < (s0.size : Int)) = false := decide_eq_false q0
  by_cases q1 : (100 : Int) < (p0.size : Int)
  · go_enter Tryd.func39, Tryd.ntmps39
    go_wp2_with fail
    go_ret
    first | exact ⟨true, rfl, fun h => (by cases h), HB1.out⟩ | exact Or.inr ⟨rfl, HB1.out⟩
  have d1 : decide ((100 : Int) < (p0.size : Int)) = false := decide_eq_false q1
  by_cases q2 : (100 : Int) < (i0.size : Int)
  · go_enter Tryd.func39, Tryd.ntmps39
    go_wp2_with fail
    go_ret
    first | exact ⟨true, rfl, fun h => (by cases h), HB1.out⟩ | exact Or.inr ⟨rfl, HB1.out⟩
  have d2 : decide ((100 : Int) < (i0.size : Int)) = false := decide_eq_false q2
  by_cases q3 : (100 : Int) < (x0.size : Int)
  · go_enter Tryd.func39, Tryd.ntmps39
    go_wp2_with fail
    go_ret
    first | exact ⟨true, rfl, fun h => (by cases h), HB1.out⟩ | exact Or.inr ⟨rfl, HB1.out⟩
  have d3 : decide ((100 : Int) < (x0.size : Int)) = false := decide_eq_false q3
  have HE : Hid (EvSmall ⟨s0, n0, t0, k0, p0, i0, v0, x0⟩) := Lib.hid (HES.out.2 (by omega))
  go_enter Tryd.func39, Tryd.ntmps39
  go_wp2_with fail
  go_ret
  first | exact ⟨false, rfl, fun _ => HE.out, HB1.out⟩ | exact Or.inl ⟨rfl, HE.out, HB1.out⟩

set_option maxHeartbeats 1000000 in
set_option maxRecDepth 100000 in
theorem some_any (w : World) (B : Nat) (A : Option Addr) (l : List Ev) (n c : Nat) (hn : l.length = n) (hl : EvsAt w B A l) (hB : B ≤ w.heap.size) (hb : n ≤ 140737488355328) (hbd : ∀ e ∈ l, EvBd e) :
    Calls Tryd.prog 19 #[.slice A n c, .int .i64 100] w fun e w' => ∃ b : Bool, e = .returned (.bool b) ∧ (b = false → ∀ e ∈ l, EvSmall e) ∧ Below w.heap.size w w' := by
  have HN := Lib.hid hn
  have HL := Lib.hid hl
  have HD := Lib.hid hbd
  clear hn hl hbd
  go_enter Tryd.func19, Tryd.ntmps19
  go_wp2_with fail
  go_loopw [5] (fun i wr => ∃ k : Nat, k ≤ n ∧ i = .int .i64 k ∧ Hid (∀ j e, j < k → l[j]? = some e → EvSmall e) ∧ Hid (Below w.heap.size w wr)) (fun i _ => n - (intOf i).toNat)
  case atStart => exact ⟨0, Nat.zero_le _, rfl, Lib.hid (fun j e hj => by omega), Lib.hid (Below.refl _ _)⟩
  case round =>
    obtain ⟨k, hk, rfl, hok, hbw⟩ := hrel
    by_cases hlt : k < n
    · obtain ⟨x, hx⟩ : ∃ x, l[k]? = some x := ⟨l[k]'(by rw [HN.out]; exact hlt), List.getElem?_eq_getElem _⟩
      obtain ⟨g, o, rfl, hgB, hcl⟩ := HL.out.at (by rw [HN.out]; omega)
      obtain ⟨e0, e1, e2, e3, e4, e5, e6, e7⟩ : EvAt wr g (o + k * 8) x := (hcl k x hx).keep (fun j => hbw.out.cell (p := ⟨g, j, none⟩) (Nat.lt_of_lt_of_le hgB hB))
      have HBG := Lib.hid (big_any x wr (HD.out x (List.mem_of_getElem? hx)))
      have HX := Lib.hid hx
      have hk8 : (k : Int) < (n : Int) := by omega
      have hk9 : (0 : Int) ≤ (k : Int) := by omega
      unfold evA at HBG
      clear hcl hx
      go_wp2_with fail
      refine HBG.out.mono ?_
      rintro e w2 ⟨b, rfl, hbs, hb2⟩
      have HB2 : Hid (Below w.heap.size w w2) := Lib.hid (hbw.out.trans (hb2.mono hbw.out.size))
      clear HBG hb2
      cases b
      · have HSM := Lib.hid (hbs rfl)
        clear hbs
        go_wp2_with fail
        go_roundw
        case rel =>
          refine ⟨k + 1, by omega, by go_num, Lib.hid (fun j e hj he => ?_), HB2⟩
          by_cases h : j = k
          · subst h; rw [HX.out] at he; cases he; exact HSM.out
          · exact hok.out j e (by omega) he
        case measure => simp [intOf]; omega
      · clear hbs
        go_wp2_with fail
        go_ret
        exact ⟨true, rfl, fun h => (by cases h), HB2.out⟩
    · go_wp2_with fail
      go_ret
      refine ⟨false, rfl, fun _ e he => ?_, hbw.out⟩
      obtain ⟨j, hj⟩ := List.mem_iff_getElem?.1 he
      have := (List.getElem?_eq_some_iff.1 hj).1
      rw [HN.out] at this
      exact hok.out j e (by omega) hj
set_option maxRecDepth 100000 in
theorem long_any (w : World) (A : Option Addr) (l : List Ev) (n c : Nat) (ha : EvArg w A n c l) :
    Calls Tryd.prog 8 #[.slice A n c] w fun e w' => ∃ b : Bool, e = .returned (.bool b) ∧ (b = false → n ≤ 30 ∧ ∀ e ∈ l, EvSmall e) ∧ Below w.heap.size w w' := by
  obtain ⟨hn, hl, hb, hnil, hbd⟩ := ha
  have HS := Lib.hid (some_any w w.heap.size A l n c hn hl (Nat.le_refl _) hb hbd)
  clear hn hl hbd
  by_cases h30 : (30 : Int) < (n : Int)
  · go_enter Tryd.func8, Tryd.ntmps8
    go_wp2_with fail
    go_ret
    exact ⟨true, rfl, fun h => (by cases h), Below.refl _ _⟩
  have d0 : decide ((30 : Int) < (n : Int)) = false := decide_eq_false h30
  go_enter Tryd.func8, Tryd.ntmps8
  go_wp2_with fail
  refine HS.out.mono ?_
  rintro e w2 ⟨b, rfl, hbs, hb2⟩
  have HBS := Lib.hid hbs
  have HB2 := Lib.hid hb2
  clear hbs hb2 HS
  go_wp2_with fail
  go_ret
  exact ⟨b, rfl, fun h => ⟨by omega, HBS.out h⟩, HB2.out⟩

def awL : List Ev := [⟨⟨#[115]⟩, 1, 0, 3, ⟨#[112]⟩, ⟨#[97]⟩, 0, ⟨#[]⟩⟩, ⟨⟨#[115]⟩, 2, 5, 3, ⟨#[112]⟩, ⟨#[98]⟩, 0, ⟨#[]⟩⟩, ⟨⟨#[115]⟩, 3, 20, 3, ⟨#[112]⟩, ⟨#[99]⟩, 0, ⟨#[]⟩⟩]
theorem aw_ppl : IsPpl awL [⟨#[112]⟩] := by
  refine ⟨by simp, fun p => ?_⟩
  have hb : ∀ e ∈ awL, buyB e = true ∧ e.person = ⟨#[112]⟩ := by
    intro e he
    simp only [awL, List.mem_cons, List.not_mem_nil, or_false] at he
    rcases he with rfl | rfl | rfl <;> exact ⟨by kernel_rfl, rfl⟩
  rw [List.mem_singleton]
  constructor
  · rintro rfl
    exact ⟨⟨⟨#[115]⟩, 1, 0, 3, ⟨#[112]⟩, ⟨#[97]⟩, 0, ⟨#[]⟩⟩, by simp [awL], by kernel_rfl, rfl⟩
  · rintro ⟨e, he, _, rfl⟩
    exact (hb e he).2
theorem aw_1 : (BD 10 awL [⟨#[112]⟩]).length = 2 := by kernel_rfl
theorem aw_2 : nC (BD 10 awL [⟨#[112]⟩]) ⟨#[97]⟩ ⟨#[98]⟩ = 1 := by kernel_rfl
theorem aw_3 : nC (BD 10 awL [⟨#[112]⟩]) ⟨#[98]⟩ ⟨#[99]⟩ = 0 := by kernel_rfl
theorem aw_sh : ∀ e ∈ awL, EvSh e := by
  intro e he
  simp only [awL, List.mem_cons, List.not_mem_nil, or_false] at he
  rcases he with rfl | rfl | rfl <;> exact ⟨by decide, by decide, by decide, by decide⟩

set_option maxHeartbeats 2000000 in
set_option maxRecDepth 100000 in
theorem awake_any (w : World) (hg : GlobAt w) : Calls Tryd.prog 9 #[] w fun e w' => e = .returned (.bool true) ∧ Below w.heap.size w w' := by
  obtain ⟨w1, hw1⟩ : ∃ w1, w.alloc (.cells #[.string ⟨#[115]⟩, .int .i64 1, .int .i64 0, .int .i64 3, .string ⟨#[112]⟩, .string ⟨#[97]⟩, .int .i64 0, .string ⟨#[]⟩, .string ⟨#[115]⟩, .int .i64 2, .int .i64 5, .int .i64 3, .string ⟨#[112]⟩, .string ⟨#[98]⟩, .int .i64 0, .string ⟨#[]⟩, .string ⟨#[115]⟩, .int .i64 3, .int .i64 20, .int .i64 3, .string ⟨#[112]⟩, .string ⟨#[99]⟩, .int .i64 0, .string ⟨#[]⟩] 33) = w1 := ⟨_, rfl⟩
  have HB1 : Hid (Below w.heap.size w w1) := Lib.hid (by rw [← hw1]; exact (Below.refl _ _).alloc (Nat.le_refl _) _)
  have HR1 : Hid (EvsAt w1 w1.heap.size (some ⟨w.heap.size, 0, none⟩) awL) := Lib.hid (by
    have hb : Blk w1 w.heap.size 33 #[.string ⟨#[115]⟩, .int .i64 1, .int .i64 0, .int .i64 3, .string ⟨#[112]⟩, .string ⟨#[97]⟩, .int .i64 0, .string ⟨#[]⟩, .string ⟨#[115]⟩, .int .i64 2, .int .i64 5, .int .i64 3, .string ⟨#[112]⟩, .string ⟨#[98]⟩, .int .i64 0, .string ⟨#[]⟩, .string ⟨#[115]⟩, .int .i64 3, .int .i64 20, .int .i64 3, .string ⟨#[112]⟩, .string ⟨#[99]⟩, .int .i64 0, .string ⟨#[]⟩] := by rw [← hw1]; exact Blk.new _ _ _
    refine ⟨rfl, Or.inr ⟨w.heap.size, 0, rfl, hb.lt, fun j u hu => ?_⟩⟩
    rw [hb.cell, Nat.zero_add, ← hu]
    simp [awL, evC])
  have HOF := Lib.hid (of_any 10 (some ⟨w.heap.size, 0, none⟩) awL 3 3 w1 w1.heap.size rfl HR1.out (Nat.le_refl _) (by omega) aw_sh (hg.keep HB1.out (Nat.le_refl _)))
  have HCL : Hid (clampG 10 = 10) := Lib.hid rfl
  rw [HCL.out] at HOF
  clear hg
  go_enter Tryd.func9, Tryd.ntmps9
  go_wp2_with fail
  refine HOF.out.mono ?_
  rintro e w2 ⟨bb, D, rfl, hD, _, hbk, hb2⟩
  have HB2 : Hid (Below w.heap.size w w2) := Lib.hid (HB1.out.trans (hb2.mono HB1.out.size))
  have HA := Lib.hid (all_any w2 bb _ _ hbk)
  have HC1 := Lib.hid (count_any w2 bb _ _ ⟨#[97]⟩ ⟨#[98]⟩ hbk (by unfold maxLen; decide) (by unfold maxLen; decide))
  have HC2 := Lib.hid (count_any w2 bb _ _ ⟨#[98]⟩ ⟨#[99]⟩ hbk (by unfold maxLen; decide) (by unfold maxLen; decide))
  rw [BD_len hD aw_ppl, aw_1] at HA
  rw [BD_C hD aw_ppl, aw_2] at HC1
  rw [BD_C hD aw_ppl, aw_3] at HC2
  clear hD hbk hb2 HOF hw1 HR1 HB1
  go_wp2_with fail
  refine HA.out.mono ?_
  rintro e w3 ⟨rfl, rfl⟩
  go_wp2_with fail
  refine HC1.out.mono ?_
  rintro e w3 ⟨rfl, rfl⟩
  go_wp2_with fail
  refine HC2.out.mono ?_
  rintro e w3 ⟨rfl, rfl⟩
  go_wp2_with fail
  go_ret
  exact ⟨rfl, HB2.out⟩

end Go.Proofs.YtcgangmmehbdoaaDoor
