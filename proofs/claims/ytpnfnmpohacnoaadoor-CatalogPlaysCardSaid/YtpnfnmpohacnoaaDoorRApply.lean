/- The document's Apply. -/
import Derived.Test.YtpnfnmpohacnoaaDoorRChg
import Derived.Deep.RegionHeld3
import Derived.IntWalk
namespace Go.Proofs.YtpnfnmpohacnoaaDoor
open Go.Shelf Go.RowKit Go.Maps
set_option linter.unusedVariables false

def BoxE (W : World) (b : Nat) (x : Ev) : Prop := World.cell? W ⟨b, 0, none⟩ = some (.string x.src) ∧ World.cell? W ⟨b, 1, none⟩ = some (.int .i64 x.num) ∧ World.cell? W ⟨b, 2, none⟩ = some (.int .i64 x.tick) ∧ World.cell? W ⟨b, 3, none⟩ = some (.int .i64 x.kind) ∧ World.cell? W ⟨b, 4, none⟩ = some (.string x.person) ∧ World.cell? W ⟨b, 5, none⟩ = some (.string x.item) ∧ World.cell? W ⟨b, 6, none⟩ = some (.int .i64 x.value) ∧ World.cell? W ⟨b, 7, none⟩ = some (.string x.text)
theorem BoxE.keep {W W' : World} {b : Nat} {x : Ev} (h : BoxE W b x) (hk : ∀ j, W'.cell? ⟨b, j, none⟩ = W.cell? ⟨b, j, none⟩) : BoxE W' b x := by
  obtain ⟨h0, h1, h2, h3, h4, h5, h6, h7⟩ := h
  exact ⟨(hk _).trans h0, (hk _).trans h1, (hk _).trans h2, (hk _).trans h3, (hk _).trans h4, (hk _).trans h5, (hk _).trans h6, (hk _).trans h7⟩
theorem one_ev' (w : World) (x : Ev) (t : TypeId) : RowIn (w.alloc (.cells #[.string x.src, .int .i64 x.num, .int .i64 x.tick, .int .i64 x.kind, .string x.person, .string x.item, .int .i64 x.value, .string x.text] t)) (w.heap.size + 1) 8 (some ⟨w.heap.size, 0, none⟩) 1 (evC x) := by
  refine ⟨rfl, Or.inr ⟨w.heap.size, 0, rfl, by omega, fun j u hu => ?_⟩⟩
  rw [(Blk.new w t _).cell]
  rw [← hu, Nat.zero_add]
  simp [evC]
theorem evs_off {w w' : World} {B : Nat} {A : Option Addr} {l : List Ev} {S : Nat → Prop} (h : EvsAt w B A l) (k : Kept S w w') (hB : B ≤ w.heap.size) (hA : ∀ ad, A = some ad → ¬ S ad.block) : EvsAt w' B A l := by
  refine ⟨h.1, h.2.elim Or.inl fun hx => Or.inr ?_⟩
  obtain ⟨b, off, e, hb, hc⟩ := hx
  exact ⟨b, off, e, hb, fun j u hu => (k.cell (p := ⟨b, off + j, none⟩) (by show b < _; omega) (hA ⟨b, off, none⟩ e)).trans (hc j u hu)⟩

set_option maxHeartbeats 4000000 in
set_option maxRecDepth 100000 in
theorem rapply_any (w : World) (B : Nat) (A : Option Addr) (es : List Ev) (n c : Nat) (x : Ev) (hn : es.length = n) (hl : EvsAt w B A es) (hB : B ≤ w.heap.size) (hnil : A = none → c = 0) (hx : EvSh x) (hb : n ≤ 100000) :
    Calls Tryd.prog 23 #[.slice A n c, evA x] w fun e w' => ∃ A' c', e = .returned (.tuple #[.slice A' (aftP es x).length c', .bool (takesB es x)]) ∧ EvsAt w' w'.heap.size A' (aftP es x) ∧ (A' = none → c' = 0) ∧ (A' = A ∨ ∀ ad, A' = some ad → w.heap.size ≤ ad.block ∧ ad.block < w'.heap.size) ∧ Below w.heap.size w w' := by
  have HN := Lib.hid hn
  have HL := Lib.hid hl
  have HNIL := Lib.hid hnil
  have HOF : Hid (∀ W, Calls Tryd.prog 39 #[evA x] W fun e w' => e = .returned (.bool (catB x)) ∧ Below W.heap.size W w') := Lib.hid (fun W => of_any x W hx)
  have HLS : Hid (∀ y W, Calls Tryd.prog 40 #[evA y, evA x] W fun e w' => ∃ b : Bool, e = .returned (.bool b) ∧ (b = true ↔ ltE y x) ∧ Below W.heap.size W w') := Lib.hid (fun y W => rless_any y x W)
  have HTI := Lib.hid (takes_iff es x)
  have HAQ : Hid (aftP es x = if takesB es x then es ++ [x] else es) := Lib.hid rfl
  unfold evA at HOF HLS ⊢
  obtain ⟨i0, hi0, hz0, hz1, hz2⟩ := info_parts ev_info
  obtain ⟨w1, hw1⟩ : ∃ w1, w.alloc (.cells #[.string x.src, .int .i64 x.num, .int .i64 x.tick, .int .i64 x.kind, .string x.person, .string x.item, .int .i64 x.value, .string x.text] 36) = w1 := ⟨_, rfl⟩
  have HK1 : Hid (BoxE w1 w.heap.size x) := Lib.hid (by
    have bl : Blk w1 w.heap.size 36 #[.string x.src, .int .i64 x.num, .int .i64 x.tick, .int .i64 x.kind, .string x.person, .string x.item, .int .i64 x.value, .string x.text] := by rw [← hw1]; exact Blk.new _ _ _
    exact ⟨bl.cell 0, bl.cell 1, bl.cell 2, bl.cell 3, bl.cell 4, bl.cell 5, bl.cell 6, bl.cell 7⟩)
  have HB1 : Hid (Below w.heap.size w w1) := Lib.hid (by rw [← hw1]; exact (Below.refl _ _).alloc (Nat.le_refl _) _)
  have HLT1 : Hid (w.heap.size < w1.heap.size) := Lib.hid (by rw [← hw1]; simp)
  have hl1 := HLT1.out
  clear hn hl hnil hx
  go_enter Tryd.func23, Tryd.ntmps23
  go_wp2_with fail
  clear hw1
  have HKR1 : Hid (World.cell? w1.drew ⟨w.heap.size, 0, none⟩ = some (.string x.src) ∧ World.cell? w1.drew ⟨w.heap.size, 1, none⟩ = some (.int .i64 x.num) ∧ World.cell? w1.drew ⟨w.heap.size, 2, none⟩ = some (.int .i64 x.tick) ∧ World.cell? w1.drew ⟨w.heap.size, 3, none⟩ = some (.int .i64 x.kind) ∧ World.cell? w1.drew ⟨w.heap.size, 4, none⟩ = some (.string x.person) ∧ World.cell? w1.drew ⟨w.heap.size, 5, none⟩ = some (.string x.item) ∧ World.cell? w1.drew ⟨w.heap.size, 6, none⟩ = some (.int .i64 x.value) ∧ World.cell? w1.drew ⟨w.heap.size, 7, none⟩ = some (.string x.text)) := HK1
  cases hcat : catB x
  · have HTB : Hid (takesB es x = false) := Lib.hid (by
      cases ht : takesB es x
      · rfl
      · have := (HTI.out.1 ht).1
        rw [hcat] at this; cases this)
    have HAF : Hid (aftP es x = es) := Lib.hid (by rw [HAQ.out, HTB.out]; rfl)
    rw [hcat] at HOF
    clear hcat HTI
    have c0 := HK1.out.1
    have c1 := HK1.out.2.1
    have c2 := HK1.out.2.2.1
    have c3 := HK1.out.2.2.2.1
    have c4 := HK1.out.2.2.2.2.1
    have c5 := HK1.out.2.2.2.2.2.1
    have c6 := HK1.out.2.2.2.2.2.2.1
    have c7 := HK1.out.2.2.2.2.2.2.2
    refine wp_text [1] (by kernel_rfl) (by kernel_rfl) ?_
    simp only [wpText, Nat.sub_zero, List.take_succ_cons, List.take_zero, List.drop_succ_cons, List.drop_zero, Nat.reduceAdd]
    repeat ((with_reducible refine wpStill_step (fun K hK => ?_)); go_simp; refine hK _ ?_; clear hK K)
    with_reducible refine wpStill_nil ?_
    go_wp2_with fail
    refine (HOF.out _).mono ?_
    rintro e w2 ⟨rfl, hb2⟩
    have hb2' : Below w1.heap.size w1 w2 := ⟨hb2.os, hb2.tape, hb2.output, hb2.size, hb2.block⟩
    have HB2 : Hid (Below w.heap.size w w2) := Lib.hid (HB1.out.trans (hb2'.mono HB1.out.size))
    have HK2 : Hid (BoxE w2 w.heap.size x) := Lib.hid (HK1.out.keep (fun j => hb2'.cell (p := ⟨w.heap.size, j, none⟩) HLT1.out))
    clear c0 c1 c2 c3 c4 c5 c6 c7
    go_wp2_with fail
    repeat ((with_reducible refine wpStill_step (fun K hK => ?_)); go_simp; refine hK _ ?_; clear hK K)
    (try with_reducible refine wpStill_nil ?_)
    go_wp2_with fail
    go_ret2
    refine ⟨A, c, by rw [HAF.out, HTB.out, HN.out]; rfl, ?_, HNIL.out, Or.inl rfl, HB2.out⟩
    rw [HAF.out]
    exact (RowIn.below HL.out (HB2.out.mono hB)).more (Nat.le_trans hB HB2.out.size)
  rw [hcat] at HOF
  by_cases hn0 : n = 0
  · have HTB : Hid (takesB es x = true) := Lib.hid (HTI.out.2 ⟨hcat, fun l hl => by
      rw [List.eq_nil_of_length_eq_zero (HN.out.trans hn0)] at hl; cases hl⟩)
    have HAF : Hid (aftP es x = es ++ [x]) := Lib.hid (by rw [HAQ.out, HTB.out]; rfl)
    have hk1 : decide ((0 : Int) < (n : Int)) = false := decide_eq_false (by omega)
    have hk2 : decide (0 < n) = false := decide_eq_false (by omega)
    have hk3 : ¬ 0 < n := by omega
    clear hcat HTI hn0
    have c0 := HK1.out.1
    have c1 := HK1.out.2.1
    have c2 := HK1.out.2.2.1
    have c3 := HK1.out.2.2.2.1
    have c4 := HK1.out.2.2.2.2.1
    have c5 := HK1.out.2.2.2.2.2.1
    have c6 := HK1.out.2.2.2.2.2.2.1
    have c7 := HK1.out.2.2.2.2.2.2.2
    refine wp_text [1] (by kernel_rfl) (by kernel_rfl) ?_
    simp only [wpText, Nat.sub_zero, List.take_succ_cons, List.take_zero, List.drop_succ_cons, List.drop_zero, Nat.reduceAdd]
    repeat ((with_reducible refine wpStill_step (fun K hK => ?_)); go_simp; refine hK _ ?_; clear hK K)
    with_reducible refine wpStill_nil ?_
    go_wp2_with fail
    refine (HOF.out _).mono ?_
    rintro e w2 ⟨rfl, hb2⟩
    have hb2' : Below w1.heap.size w1 w2 := ⟨hb2.os, hb2.tape, hb2.output, hb2.size, hb2.block⟩
    have HB2 : Hid (Below w.heap.size w w2) := Lib.hid (HB1.out.trans (hb2'.mono HB1.out.size))
    have HK2 : Hid (BoxE w2 w.heap.size x) := Lib.hid (HK1.out.keep (fun j => hb2'.cell (p := ⟨w.heap.size, j, none⟩) HLT1.out))
    clear c0 c1 c2 c3 c4 c5 c6 c7
    go_wp2_with fail
    repeat ((with_reducible refine wpStill_step (fun K hK => ?_)); go_simp; refine hK _ ?_; clear hK K)
    (try with_reducible refine wpStill_nil ?_)
    have HB4 := HB2
    have HK4 := HK2
    have HLTB : Hid (w.heap.size < w2.heap.size) := Lib.hid (Nat.lt_of_lt_of_le HLT1.out hb2'.size)
    obtain ⟨w4, rfl⟩ : ∃ w4 : World, w4 = w2 := ⟨_, rfl⟩
    clear HK2 HB2 HKR1 HK1 HB1 hb2' hb2
    obtain ⟨w5, hw5⟩ : ∃ w5 : World, w5 = w4 := ⟨_, rfl⟩
    rw [← hw5] at HB4 HK4 HLTB ⊢
    clear hw5
    have HR1 : Hid (RowIn w5 w5.heap.size 8 A n (es.flatMap evC)) := Lib.hid (by have h1 := (RowIn.below HL.out (HB4.out.mono hB)).more (B' := w5.heap.size) (Nat.le_trans hB HB4.out.size); rw [HN.out] at h1; exact h1)
    have HRE : Hid (∀ ob : Obj, RowIn (w5.alloc ob) w5.heap.size 8 A n (es.flatMap evC)) := Lib.hid (fun ob => RowIn.alloc HR1.out (Nat.le_refl _) _)
    have HRN : Hid (∀ ob o2 : Obj, RowIn ((w5.alloc ob).alloc o2) w5.heap.size 8 A n (es.flatMap evC)) := Lib.hid (fun ob o2 => RowIn.alloc (RowIn.alloc HR1.out (Nat.le_refl _) _) (by simp) _)
    have HOA := Lib.hid (own_empty w5 36 8)
    have HOC : Hid (∀ ob : Obj, ((w5.alloc ob).alloc (.cells #[] 36)).ownsRow w5.heap.size 36 8 (.slice (some ⟨w5.heap.size + 1, 0, none⟩) 0 0) 0 []) := Lib.hid (fun ob => by
      have := own_empty (w5.alloc ob) 36 8
      rw [show (w5.alloc ob).heap.size = w5.heap.size + 1 from by simp] at this
      exact own_mono this (by omega))
    have H1B : Hid (RowIn ((w5.alloc (.cells #[] 36)).alloc (.cells #[.string x.src, .int .i64 x.num, .int .i64 x.tick, .int .i64 x.kind, .string x.person, .string x.item, .int .i64 x.value, .string x.text] 36)) (w5.heap.size + 2) 8 (some ⟨w5.heap.size + 1, 0, none⟩) 1 (evC x)) := Lib.hid (by
      have := one_ev' (w5.alloc (.cells #[] 36)) x 36
      rw [show (w5.alloc (.cells #[] 36)).heap.size = w5.heap.size + 1 from by simp] at this
      exact this)
    have H1C : Hid (RowIn ((w5.alloc (.cells #[.string x.src, .int .i64 x.num, .int .i64 x.tick, .int .i64 x.kind, .string x.person, .string x.item, .int .i64 x.value, .string x.text] 36)).alloc (.cells #[] 36)) (w5.heap.size + 1) 8 (some ⟨w5.heap.size, 0, none⟩) 1 (evC x)) := Lib.hid (RowIn.alloc (one_ev' w5 x 36) (by simp) _)
    have HBA : Hid (∀ ob : Obj, Below w5.heap.size w5 (w5.alloc ob).drew) := Lib.hid (fun ob => below_drew ((Below.refl _ _).alloc (Nat.le_refl _) _))
    have HBA0 : Hid (∀ ob : Obj, Below w5.heap.size w5 (w5.alloc ob)) := Lib.hid (fun ob => (Below.refl _ _).alloc (Nat.le_refl _) _)
    have HBB : Hid (∀ ob o2 : Obj, Below w5.heap.size w5 ((w5.alloc ob).alloc o2).drew) := Lib.hid (fun ob o2 => below_drew (((Below.refl _ _).alloc (Nat.le_refl _) _).alloc (by simp) _))
    have HBB0 : Hid (∀ ob o2 : Obj, Below w5.heap.size w5 ((w5.alloc ob).alloc o2)) := Lib.hid (fun ob o2 => ((Below.refl _ _).alloc (Nat.le_refl _) _).alloc (by simp) _)
    have HBX : Hid (∀ (W : World) (ob : Obj), Below w5.heap.size w5 W → Below w5.heap.size w5 (W.alloc ob)) := Lib.hid (fun W ob h => h.alloc h.size _)
    have HON1 := Lib.hid (evC_one es)
    have HONX : Hid (∀ u ∈ evC x, u.oneCell' = true) := Lib.hid (fun u hu => evC_one [x] u (by simpa using hu))
    have P1 : Hid (0 + n ≤ maxLen) := Lib.hid (by unfold maxLen; omega)
    have P2 : Hid ((0 + n) * 96 ≤ 140737488355328) := Lib.hid (by omega)
    have P3 : Hid (0 + n + 1 ≤ maxLen) := Lib.hid (by unfold maxLen; omega)
    have P4 : Hid ((0 + n + 1) * 96 ≤ 140737488355328) := Lib.hid (by omega)
    have HBLT : Hid (w.heap.size < w5.heap.size) := Lib.hid HLTB.out
    have HKE : Hid (BoxE w5 w.heap.size x) := HK4
    have HKR : Hid (World.cell? w5.drew ⟨w.heap.size, 0, none⟩ = some (.string x.src) ∧ World.cell? w5.drew ⟨w.heap.size, 1, none⟩ = some (.int .i64 x.num) ∧ World.cell? w5.drew ⟨w.heap.size, 2, none⟩ = some (.int .i64 x.tick) ∧ World.cell? w5.drew ⟨w.heap.size, 3, none⟩ = some (.int .i64 x.kind) ∧ World.cell? w5.drew ⟨w.heap.size, 4, none⟩ = some (.string x.person) ∧ World.cell? w5.drew ⟨w.heap.size, 5, none⟩ = some (.string x.item) ∧ World.cell? w5.drew ⟨w.heap.size, 6, none⟩ = some (.int .i64 x.value) ∧ World.cell? w5.drew ⟨w.heap.size, 7, none⟩ = some (.string x.text)) := HK4
    have HKA : Hid (∀ ob : Obj, World.cell? (w5.alloc ob).drew ⟨w.heap.size, 0, none⟩ = some (.string x.src) ∧ World.cell? (w5.alloc ob).drew ⟨w.heap.size, 1, none⟩ = some (.int .i64 x.num) ∧ World.cell? (w5.alloc ob).drew ⟨w.heap.size, 2, none⟩ = some (.int .i64 x.tick) ∧ World.cell? (w5.alloc ob).drew ⟨w.heap.size, 3, none⟩ = some (.int .i64 x.kind) ∧ World.cell? (w5.alloc ob).drew ⟨w.heap.size, 4, none⟩ = some (.string x.person) ∧ World.cell? (w5.alloc ob).drew ⟨w.heap.size, 5, none⟩ = some (.string x.item) ∧ World.cell? (w5.alloc ob).drew ⟨w.heap.size, 6, none⟩ = some (.int .i64 x.value) ∧ World.cell? (w5.alloc ob).drew ⟨w.heap.size, 7, none⟩ = some (.string x.text)) := Lib.hid (fun ob => HKE.out.keep (fun j => World.cell?_alloc_lt _ _ _ HBLT.out))
    have HKB : Hid (∀ ob o2 : Obj, World.cell? ((w5.alloc ob).alloc o2).drew ⟨w.heap.size, 0, none⟩ = some (.string x.src) ∧ World.cell? ((w5.alloc ob).alloc o2).drew ⟨w.heap.size, 1, none⟩ = some (.int .i64 x.num) ∧ World.cell? ((w5.alloc ob).alloc o2).drew ⟨w.heap.size, 2, none⟩ = some (.int .i64 x.tick) ∧ World.cell? ((w5.alloc ob).alloc o2).drew ⟨w.heap.size, 3, none⟩ = some (.int .i64 x.kind) ∧ World.cell? ((w5.alloc ob).alloc o2).drew ⟨w.heap.size, 4, none⟩ = some (.string x.person) ∧ World.cell? ((w5.alloc ob).alloc o2).drew ⟨w.heap.size, 5, none⟩ = some (.string x.item) ∧ World.cell? ((w5.alloc ob).alloc o2).drew ⟨w.heap.size, 6, none⟩ = some (.int .i64 x.value) ∧ World.cell? ((w5.alloc ob).alloc o2).drew ⟨w.heap.size, 7, none⟩ = some (.string x.text)) := Lib.hid (fun ob o2 => HKE.out.keep (fun j => (World.cell?_alloc_lt (w5.alloc ob) o2 ⟨w.heap.size, j, none⟩ (by have := HBLT.out; simp; omega)).trans (World.cell?_alloc_lt _ _ _ HBLT.out)))
    have c0 := HKE.out.1
    have c1 := HKE.out.2.1
    have c2 := HKE.out.2.2.1
    have c3 := HKE.out.2.2.2.1
    have c4 := HKE.out.2.2.2.2.1
    have c5 := HKE.out.2.2.2.2.2.1
    have c6 := HKE.out.2.2.2.2.2.2.1
    have c7 := HKE.out.2.2.2.2.2.2.2
    go_wp2_with fail
    go_region_held3 (fun W => World.cell? W ⟨w.heap.size, 0, none⟩ = some (.string x.src) ∧ World.cell? W ⟨w.heap.size, 1, none⟩ = some (.int .i64 x.num) ∧ World.cell? W ⟨w.heap.size, 2, none⟩ = some (.int .i64 x.tick) ∧ World.cell? W ⟨w.heap.size, 3, none⟩ = some (.int .i64 x.kind) ∧ World.cell? W ⟨w.heap.size, 4, none⟩ = some (.string x.person) ∧ World.cell? W ⟨w.heap.size, 5, none⟩ = some (.string x.item) ∧ World.cell? W ⟨w.heap.size, 6, none⟩ = some (.int .i64 x.value) ∧ World.cell? W ⟨w.heap.size, 7, none⟩ = some (.string x.text))
      (first | with_reducible exact HKR.out | with_reducible exact HKE.out | with_reducible exact HKX.out | with_reducible exact HKXA.out _ | with_reducible exact HKY.out | with_reducible exact HKA.out _ | with_reducible exact HKB.out _ _ | exact HKR.out | exact HKX.out | exact HKXA.out _ | exact HKY.out | exact HKA.out _ | exact HKB.out _ _)
      (first
        | (refine step_append_row _ (by rfl) (.tmp 26) (.tmp 27) 22 (by rfl) w5.heap.size 36 i0 _ 8 96 Tryd.underlying22 hi0 hz0 hz1 hz2 rfl (by decide) (.slice (some ⟨w5.heap.size, 0, none⟩) 0 0) 0 [] (by rfl) HOA.out w5.heap.size (A) n c _ (by rfl) (HRE.out _) HNIL.out HON1.out P1.out P2.out (by simp <;> omega) ?_; intro v1 wx ho1 hg1 hv1; have b1 : Below w5.heap.size w5 wx := bel1 (by first | exact HBA.out _ | exact HBA0.out _ | exact HBB.out _ _ | exact HBB0.out _ _ | exact b1 | exact HBX.out _ _ b1 | exact b2 | exact HBX.out _ _ b2) hg1 (fun j hj => by first | exact (ho1.lt _ hj).1 | exact (ho2.lt _ hj).1 | (cases hj; exact Nat.le_refl _) | (cases hj; exact Nat.le_succ _)); have HKX : Hid (World.cell? wx ⟨w.heap.size, 0, none⟩ = some (.string x.src) ∧ World.cell? wx ⟨w.heap.size, 1, none⟩ = some (.int .i64 x.num) ∧ World.cell? wx ⟨w.heap.size, 2, none⟩ = some (.int .i64 x.tick) ∧ World.cell? wx ⟨w.heap.size, 3, none⟩ = some (.int .i64 x.kind) ∧ World.cell? wx ⟨w.heap.size, 4, none⟩ = some (.string x.person) ∧ World.cell? wx ⟨w.heap.size, 5, none⟩ = some (.string x.item) ∧ World.cell? wx ⟨w.heap.size, 6, none⟩ = some (.int .i64 x.value) ∧ World.cell? wx ⟨w.heap.size, 7, none⟩ = some (.string x.text)) := Lib.hid (HKE.out.keep (fun j => b1.cell (p := ⟨w.heap.size, j, none⟩) HBLT.out)); have HKXA : Hid (∀ ob : Obj, World.cell? (wx.alloc ob) ⟨w.heap.size, 0, none⟩ = some (.string x.src) ∧ World.cell? (wx.alloc ob) ⟨w.heap.size, 1, none⟩ = some (.int .i64 x.num) ∧ World.cell? (wx.alloc ob) ⟨w.heap.size, 2, none⟩ = some (.int .i64 x.tick) ∧ World.cell? (wx.alloc ob) ⟨w.heap.size, 3, none⟩ = some (.int .i64 x.kind) ∧ World.cell? (wx.alloc ob) ⟨w.heap.size, 4, none⟩ = some (.string x.person) ∧ World.cell? (wx.alloc ob) ⟨w.heap.size, 5, none⟩ = some (.string x.item) ∧ World.cell? (wx.alloc ob) ⟨w.heap.size, 6, none⟩ = some (.int .i64 x.value) ∧ World.cell? (wx.alloc ob) ⟨w.heap.size, 7, none⟩ = some (.string x.text)) := Lib.hid (fun ob => BoxE.keep HKX.out (fun j => World.cell?_alloc_lt _ _ _ (Nat.lt_of_lt_of_le HBLT.out b1.size))))
        | (refine step_append_row _ (by rfl) (.tmp 26) (.tmp 27) 22 (by rfl) w5.heap.size 36 i0 _ 8 96 Tryd.underlying22 hi0 hz0 hz1 hz2 rfl (by decide) (.slice (some ⟨w5.heap.size, 0, none⟩) 0 0) 0 [] (by rfl) (HOA.out.alloc _) w5.heap.size (A) n c _ (by rfl) (HRN.out _ _) HNIL.out HON1.out P1.out P2.out (by simp <;> omega) ?_; intro v1 wx ho1 hg1 hv1; have b1 : Below w5.heap.size w5 wx := bel1 (by first | exact HBA.out _ | exact HBA0.out _ | exact HBB.out _ _ | exact HBB0.out _ _ | exact b1 | exact HBX.out _ _ b1 | exact b2 | exact HBX.out _ _ b2) hg1 (fun j hj => by first | exact (ho1.lt _ hj).1 | exact (ho2.lt _ hj).1 | (cases hj; exact Nat.le_refl _) | (cases hj; exact Nat.le_succ _)); have HKX : Hid (World.cell? wx ⟨w.heap.size, 0, none⟩ = some (.string x.src) ∧ World.cell? wx ⟨w.heap.size, 1, none⟩ = some (.int .i64 x.num) ∧ World.cell? wx ⟨w.heap.size, 2, none⟩ = some (.int .i64 x.tick) ∧ World.cell? wx ⟨w.heap.size, 3, none⟩ = some (.int .i64 x.kind) ∧ World.cell? wx ⟨w.heap.size, 4, none⟩ = some (.string x.person) ∧ World.cell? wx ⟨w.heap.size, 5, none⟩ = some (.string x.item) ∧ World.cell? wx ⟨w.heap.size, 6, none⟩ = some (.int .i64 x.value) ∧ World.cell? wx ⟨w.heap.size, 7, none⟩ = some (.string x.text)) := Lib.hid (HKE.out.keep (fun j => b1.cell (p := ⟨w.heap.size, j, none⟩) HBLT.out)); have HKXA : Hid (∀ ob : Obj, World.cell? (wx.alloc ob) ⟨w.heap.size, 0, none⟩ = some (.string x.src) ∧ World.cell? (wx.alloc ob) ⟨w.heap.size, 1, none⟩ = some (.int .i64 x.num) ∧ World.cell? (wx.alloc ob) ⟨w.heap.size, 2, none⟩ = some (.int .i64 x.tick) ∧ World.cell? (wx.alloc ob) ⟨w.heap.size, 3, none⟩ = some (.int .i64 x.kind) ∧ World.cell? (wx.alloc ob) ⟨w.heap.size, 4, none⟩ = some (.string x.person) ∧ World.cell? (wx.alloc ob) ⟨w.heap.size, 5, none⟩ = some (.string x.item) ∧ World.cell? (wx.alloc ob) ⟨w.heap.size, 6, none⟩ = some (.int .i64 x.value) ∧ World.cell? (wx.alloc ob) ⟨w.heap.size, 7, none⟩ = some (.string x.text)) := Lib.hid (fun ob => BoxE.keep HKX.out (fun j => World.cell?_alloc_lt _ _ _ (Nat.lt_of_lt_of_le HBLT.out b1.size))))
        | (refine step_append_row _ (by rfl) (.tmp 26) (.tmp 27) 22 (by rfl) w5.heap.size 36 i0 _ 8 96 Tryd.underlying22 hi0 hz0 hz1 hz2 rfl (by decide) (.slice (some ⟨w5.heap.size + 1, 0, none⟩) 0 0) 0 [] (by rfl) (HOC.out _) w5.heap.size (A) n c _ (by rfl) (HRN.out _ _) HNIL.out HON1.out P1.out P2.out (by simp <;> omega) ?_; intro v1 wx ho1 hg1 hv1; have b1 : Below w5.heap.size w5 wx := bel1 (by first | exact HBA.out _ | exact HBA0.out _ | exact HBB.out _ _ | exact HBB0.out _ _ | exact b1 | exact HBX.out _ _ b1 | exact b2 | exact HBX.out _ _ b2) hg1 (fun j hj => by first | exact (ho1.lt _ hj).1 | exact (ho2.lt _ hj).1 | (cases hj; exact Nat.le_refl _) | (cases hj; exact Nat.le_succ _)); have HKX : Hid (World.cell? wx ⟨w.heap.size, 0, none⟩ = some (.string x.src) ∧ World.cell? wx ⟨w.heap.size, 1, none⟩ = some (.int .i64 x.num) ∧ World.cell? wx ⟨w.heap.size, 2, none⟩ = some (.int .i64 x.tick) ∧ World.cell? wx ⟨w.heap.size, 3, none⟩ = some (.int .i64 x.kind) ∧ World.cell? wx ⟨w.heap.size, 4, none⟩ = some (.string x.person) ∧ World.cell? wx ⟨w.heap.size, 5, none⟩ = some (.string x.item) ∧ World.cell? wx ⟨w.heap.size, 6, none⟩ = some (.int .i64 x.value) ∧ World.cell? wx ⟨w.heap.size, 7, none⟩ = some (.string x.text)) := Lib.hid (HKE.out.keep (fun j => b1.cell (p := ⟨w.heap.size, j, none⟩) HBLT.out)); have HKXA : Hid (∀ ob : Obj, World.cell? (wx.alloc ob) ⟨w.heap.size, 0, none⟩ = some (.string x.src) ∧ World.cell? (wx.alloc ob) ⟨w.heap.size, 1, none⟩ = some (.int .i64 x.num) ∧ World.cell? (wx.alloc ob) ⟨w.heap.size, 2, none⟩ = some (.int .i64 x.tick) ∧ World.cell? (wx.alloc ob) ⟨w.heap.size, 3, none⟩ = some (.int .i64 x.kind) ∧ World.cell? (wx.alloc ob) ⟨w.heap.size, 4, none⟩ = some (.string x.person) ∧ World.cell? (wx.alloc ob) ⟨w.heap.size, 5, none⟩ = some (.string x.item) ∧ World.cell? (wx.alloc ob) ⟨w.heap.size, 6, none⟩ = some (.int .i64 x.value) ∧ World.cell? (wx.alloc ob) ⟨w.heap.size, 7, none⟩ = some (.string x.text)) := Lib.hid (fun ob => BoxE.keep HKX.out (fun j => World.cell?_alloc_lt _ _ _ (Nat.lt_of_lt_of_le HBLT.out b1.size))))
        | (refine step_append_row _ (by rfl) (.tmp 28) (.tmp 30) 22 (by rfl) w5.heap.size 36 i0 _ 8 96 Tryd.underlying22 hi0 hz0 hz1 hz2 rfl (by decide) v1 (0 + n) ([] ++ es.flatMap evC) (by rfl) (ho1.alloc _) (wx.heap.size + 1) (some ⟨wx.heap.size, 0, none⟩) 1 1 (evC x) (by rfl) (one_ev' wx x _) (fun h => by cases h) HONX.out P3.out P4.out (Nat.le_trans b1.size (by simp)) ?_; intro v2 wy ho2 hg2 hv2; have b2 : Below w5.heap.size w5 wy := bel1 (by first | exact HBA.out _ | exact HBA0.out _ | exact HBB.out _ _ | exact HBB0.out _ _ | exact b1 | exact HBX.out _ _ b1 | exact b2 | exact HBX.out _ _ b2) hg2 (fun j hj => by first | exact (ho1.lt _ hj).1 | exact (ho2.lt _ hj).1 | (cases hj; exact Nat.le_refl _) | (cases hj; exact Nat.le_succ _)); have HKY : Hid (World.cell? wy ⟨w.heap.size, 0, none⟩ = some (.string x.src) ∧ World.cell? wy ⟨w.heap.size, 1, none⟩ = some (.int .i64 x.num) ∧ World.cell? wy ⟨w.heap.size, 2, none⟩ = some (.int .i64 x.tick) ∧ World.cell? wy ⟨w.heap.size, 3, none⟩ = some (.int .i64 x.kind) ∧ World.cell? wy ⟨w.heap.size, 4, none⟩ = some (.string x.person) ∧ World.cell? wy ⟨w.heap.size, 5, none⟩ = some (.string x.item) ∧ World.cell? wy ⟨w.heap.size, 6, none⟩ = some (.int .i64 x.value) ∧ World.cell? wy ⟨w.heap.size, 7, none⟩ = some (.string x.text)) := Lib.hid (HKE.out.keep (fun j => b2.cell (p := ⟨w.heap.size, j, none⟩) HBLT.out)))
        | (refine step_append_row _ (by rfl) (.tmp 28) (.tmp 30) 22 (by rfl) w5.heap.size 36 i0 _ 8 96 Tryd.underlying22 hi0 hz0 hz1 hz2 rfl (by decide) v1 (0 + n) ([] ++ es.flatMap evC) (by rfl) ho1 (w5.heap.size + 2) (some ⟨w5.heap.size + 1, 0, none⟩) 1 1 (evC x) (by rfl) (row_grown (RowIn.drew H1B.out) (by simp <;> omega) (by simp [Value.ownBlock] <;> omega) hg1) (fun h => by cases h) HONX.out P3.out P4.out (Nat.le_trans b1.size (by simp)) ?_; intro v2 wy ho2 hg2 hv2; have b2 : Below w5.heap.size w5 wy := bel1 (by first | exact HBA.out _ | exact HBA0.out _ | exact HBB.out _ _ | exact HBB0.out _ _ | exact b1 | exact HBX.out _ _ b1 | exact b2 | exact HBX.out _ _ b2) hg2 (fun j hj => by first | exact (ho1.lt _ hj).1 | exact (ho2.lt _ hj).1 | (cases hj; exact Nat.le_refl _) | (cases hj; exact Nat.le_succ _)); have HKY : Hid (World.cell? wy ⟨w.heap.size, 0, none⟩ = some (.string x.src) ∧ World.cell? wy ⟨w.heap.size, 1, none⟩ = some (.int .i64 x.num) ∧ World.cell? wy ⟨w.heap.size, 2, none⟩ = some (.int .i64 x.tick) ∧ World.cell? wy ⟨w.heap.size, 3, none⟩ = some (.int .i64 x.kind) ∧ World.cell? wy ⟨w.heap.size, 4, none⟩ = some (.string x.person) ∧ World.cell? wy ⟨w.heap.size, 5, none⟩ = some (.string x.item) ∧ World.cell? wy ⟨w.heap.size, 6, none⟩ = some (.int .i64 x.value) ∧ World.cell? wy ⟨w.heap.size, 7, none⟩ = some (.string x.text)) := Lib.hid (HKE.out.keep (fun j => b2.cell (p := ⟨w.heap.size, j, none⟩) HBLT.out)))
        | (refine step_append_row _ (by rfl) (.tmp 28) (.tmp 30) 22 (by rfl) w5.heap.size 36 i0 _ 8 96 Tryd.underlying22 hi0 hz0 hz1 hz2 rfl (by decide) v1 (0 + n) ([] ++ es.flatMap evC) (by rfl) ho1 (w5.heap.size + 1) (some ⟨w5.heap.size, 0, none⟩) 1 1 (evC x) (by rfl) (row_grown (RowIn.drew H1C.out) (by simp <;> omega) (by simp [Value.ownBlock] <;> omega) hg1) (fun h => by cases h) HONX.out P3.out P4.out (Nat.le_trans b1.size (by simp)) ?_; intro v2 wy ho2 hg2 hv2; have b2 : Below w5.heap.size w5 wy := bel1 (by first | exact HBA.out _ | exact HBA0.out _ | exact HBB.out _ _ | exact HBB0.out _ _ | exact b1 | exact HBX.out _ _ b1 | exact b2 | exact HBX.out _ _ b2) hg2 (fun j hj => by first | exact (ho1.lt _ hj).1 | exact (ho2.lt _ hj).1 | (cases hj; exact Nat.le_refl _) | (cases hj; exact Nat.le_succ _)); have HKY : Hid (World.cell? wy ⟨w.heap.size, 0, none⟩ = some (.string x.src) ∧ World.cell? wy ⟨w.heap.size, 1, none⟩ = some (.int .i64 x.num) ∧ World.cell? wy ⟨w.heap.size, 2, none⟩ = some (.int .i64 x.tick) ∧ World.cell? wy ⟨w.heap.size, 3, none⟩ = some (.int .i64 x.kind) ∧ World.cell? wy ⟨w.heap.size, 4, none⟩ = some (.string x.person) ∧ World.cell? wy ⟨w.heap.size, 5, none⟩ = some (.string x.item) ∧ World.cell? wy ⟨w.heap.size, 6, none⟩ = some (.int .i64 x.value) ∧ World.cell? wy ⟨w.heap.size, 7, none⟩ = some (.string x.text)) := Lib.hid (HKE.out.keep (fun j => b2.cell (p := ⟨w.heap.size, j, none⟩) HBLT.out))))
    all_goals
      go_wp2_with fail
    all_goals
      obtain ⟨A9, c9, hr9⟩ := own_shape ho2
      subst hr9
      go_ret2
      refine ⟨A9, c9, ?_, ?_, ?_, Or.inr (fun ad h => ?_), HB4.out.trans (b2.mono HB4.out.size)⟩
      · rw [HAF.out, HTB.out, List.length_append, HN.out, show n + [x].length = 0 + n + 1 by simp]; rfl
      · rw [HAF.out]; have := RowIn.of_own ho2; unfold EvsAt; rw [List.length_append, HN.out, show n + [x].length = 0 + n + 1 by simp, List.flatMap_append, show [x].flatMap evC = evC x by simp]; exact this
      · intro h; subst h; rcases ho2.2 with ⟨h, h0⟩ | ⟨_, _, _, h, _⟩
        · injection h with _ _ h3
        · injection h with h; cases h
      · subst h
        rcases ho2.2 with ⟨h, h0⟩ | ⟨g9, cap9, cur9, h, hg9, hh9, _⟩
        · injection h with h; cases h
        · injection h with h; injection h with h; rw [h]; exact ⟨Nat.le_trans HB4.out.size hg9, (Array.getElem?_eq_some_iff.1 hh9).1⟩
  obtain ⟨y, hy⟩ : ∃ y, es[n - 1]? = some y := ⟨es[n - 1]'(by rw [HN.out]; omega), List.getElem?_eq_getElem _⟩
  have hlast : es.getLast? = some y := by rw [List.getLast?_eq_getElem?, HN.out]; exact hy
  have HTI2 : Hid (takesB es x = true ↔ ltE y x) := Lib.hid (by
    rw [HTI.out, hlast]
    exact ⟨fun h => h.2 y rfl, fun h => ⟨hcat, fun l hl => by cases hl; exact h⟩⟩)
  obtain ⟨g, o, hA, hgB, hcl⟩ := HL.out.at (by rw [HN.out]; omega)
  have hgw : g < w.heap.size := Nat.lt_of_lt_of_le hgB hB
  have HE0 : Hid (EvAt w1 g (o + (n - 1) * 8) y) := Lib.hid ((hcl (n - 1) y hy).keep (fun j => HB1.out.cell (p := ⟨g, j, none⟩) hgw))
  have HGW : Hid (g < w1.heap.size) := Lib.hid (Nat.lt_trans hgw HLT1.out)
  have hk1 : decide ((0 : Int) < (n : Int)) = true := decide_eq_true (by omega)
  have hk2 : decide (0 < n) = true := decide_eq_true (by omega)
  have hk3 : 0 < n := by omega
  have hk4 : (0 : Int) ≤ (n : Int) - 1 := by omega
  have hk5 : (n : Int) - 1 < (n : Int) := by omega
  have hk6 : ((n : Int) - 1).toNat = n - 1 := by omega
  have hk8 : (1 : Int) ≤ (n : Int) := by omega
  have hk7 : IntKind.i64.wrap ((n : Int) - 1) = (n : Int) - 1 := IntWalk.i64_in _ (by omega)
  subst hA
  clear hcat HTI hcl hy hlast hn0 hgB
  obtain ⟨c0, c1, c2, c3, c4, c5, c6, c7⟩ := HK1.out
  refine wp_text [1, 15] (by kernel_rfl) (by kernel_rfl) ?_
  simp only [wpText, Nat.sub_zero, List.take_succ_cons, List.take_zero, List.drop_succ_cons, List.drop_zero, Nat.reduceAdd, Nat.reduceSub]
  repeat ((with_reducible refine wpStill_step (fun K hK => ?_)); go_simp; refine hK _ ?_; clear hK K)
  with_reducible refine wpStill_nil ?_
  go_wp2_with fail
  refine (HOF.out _).mono ?_
  rintro e w2 ⟨rfl, hb2⟩
  have hb2' : Below w1.heap.size w1 w2 := ⟨hb2.os, hb2.tape, hb2.output, hb2.size, hb2.block⟩
  have HB2 : Hid (Below w.heap.size w w2) := Lib.hid (HB1.out.trans (hb2'.mono HB1.out.size))
  have HK2 : Hid (BoxE w2 w.heap.size x) := Lib.hid (HK1.out.keep (fun j => hb2'.cell (p := ⟨w.heap.size, j, none⟩) HLT1.out))
  have HE2 : Hid (EvAt w2 g (o + (n - 1) * 8) y) := Lib.hid (EvAt.keep HE0.out (fun j => hb2'.cell (p := ⟨g, j, none⟩) HGW.out))
  have HLT2 : Hid (w.heap.size < w2.heap.size) := Lib.hid (Nat.lt_of_lt_of_le HLT1.out hb2'.size)
  clear c0 c1 c2 c3 c4 c5 c6 c7
  obtain ⟨c0, c1, c2, c3, c4, c5, c6, c7⟩ := HK2.out
  obtain ⟨d0, d1, d2, d3, d4, d5, d6, d7⟩ := HE2.out
  go_wp2_with fail
  repeat ((with_reducible refine wpStill_step (fun K hK => ?_)); go_simp; refine hK _ ?_; clear hK K)
  with_reducible refine wpStill_nil ?_
  go_wp2_with fail
  refine (HLS.out _ _).mono ?_
  rintro e w3 ⟨b3, rfl, hb3, hb3'⟩
  have HB3 : Hid (Below w.heap.size w w3) := Lib.hid (HB2.out.trans (hb3'.mono HB2.out.size))
  have HK3 : Hid (BoxE w3 w.heap.size x) := Lib.hid (HK2.out.keep (fun j => hb3'.cell (p := ⟨w.heap.size, j, none⟩) HLT2.out))
  have HLT3 : Hid (w.heap.size < w3.heap.size) := Lib.hid (Nat.lt_of_lt_of_le HLT2.out hb3'.size)
  clear c0 c1 c2 c3 c4 c5 c6 c7 d0 d1 d2 d3 d4 d5 d6 d7
  go_wp2_with fail
  repeat ((with_reducible refine wpStill_step (fun K hK => ?_)); go_simp; refine hK _ ?_; clear hK K)
  (try with_reducible refine wpStill_nil ?_)
  cases b3
  · have HTB : Hid (takesB es x = false) := Lib.hid (by
      cases ht : takesB es x
      · rfl
      · have := hb3.2 (HTI2.out.1 ht)
        cases this)
    have HAF : Hid (aftP es x = es) := Lib.hid (by rw [HAQ.out, HTB.out]; rfl)
    clear hb3 hb3' HTI2
    go_wp2_with fail
    go_ret2
    refine ⟨some ⟨g, o, none⟩, c, by rw [HAF.out, HTB.out, HN.out]; rfl, ?_, HNIL.out, Or.inl rfl, HB3.out⟩
    rw [HAF.out]
    exact (RowIn.below HL.out (HB3.out.mono hB)).more (Nat.le_trans hB HB3.out.size)
  · have HTB : Hid (takesB es x = true) := Lib.hid (HTI2.out.2 (hb3.1 rfl))
    have HAF : Hid (aftP es x = es ++ [x]) := Lib.hid (by rw [HAQ.out, HTB.out]; rfl)
    have HB4 := HB3
    have HK4 : Hid (BoxE w3 w.heap.size x) := Lib.hid HK3.out
    have HLTB := HLT3
    obtain ⟨w4, rfl⟩ : ∃ w4 : World, w4 = w3 := ⟨_, rfl⟩
    clear HB2 HB3 HKR1 HK1 HB1 hb2 hb2' hb3 hb3' HTI2 HK2 HK3 HE2 HE0
    obtain ⟨w5, hw5⟩ : ∃ w5 : World, w5 = w4 := ⟨_, rfl⟩
    rw [← hw5] at HB4 HK4 HLTB ⊢
    clear hw5
    have HR1 : Hid (RowIn w5 w5.heap.size 8 (some ⟨g, o, none⟩) n (es.flatMap evC)) := Lib.hid (by have h1 := (RowIn.below HL.out (HB4.out.mono hB)).more (B' := w5.heap.size) (Nat.le_trans hB HB4.out.size); rw [HN.out] at h1; exact h1)
    have HRE : Hid (∀ ob : Obj, RowIn (w5.alloc ob) w5.heap.size 8 (some ⟨g, o, none⟩) n (es.flatMap evC)) := Lib.hid (fun ob => RowIn.alloc HR1.out (Nat.le_refl _) _)
    have HRN : Hid (∀ ob o2 : Obj, RowIn ((w5.alloc ob).alloc o2) w5.heap.size 8 (some ⟨g, o, none⟩) n (es.flatMap evC)) := Lib.hid (fun ob o2 => RowIn.alloc (RowIn.alloc HR1.out (Nat.le_refl _) _) (by simp) _)
    have HOA := Lib.hid (own_empty w5 36 8)
    have HOC : Hid (∀ ob : Obj, ((w5.alloc ob).alloc (.cells #[] 36)).ownsRow w5.heap.size 36 8 (.slice (some ⟨w5.heap.size + 1, 0, none⟩) 0 0) 0 []) := Lib.hid (fun ob => by
      have := own_empty (w5.alloc ob) 36 8
      rw [show (w5.alloc ob).heap.size = w5.heap.size + 1 from by simp] at this
      exact own_mono this (by omega))
    have H1B : Hid (RowIn ((w5.alloc (.cells #[] 36)).alloc (.cells #[.string x.src, .int .i64 x.num, .int .i64 x.tick, .int .i64 x.kind, .string x.person, .string x.item, .int .i64 x.value, .string x.text] 36)) (w5.heap.size + 2) 8 (some ⟨w5.heap.size + 1, 0, none⟩) 1 (evC x)) := Lib.hid (by
      have := one_ev' (w5.alloc (.cells #[] 36)) x 36
      rw [show (w5.alloc (.cells #[] 36)).heap.size = w5.heap.size + 1 from by simp] at this
      exact this)
    have H1C : Hid (RowIn ((w5.alloc (.cells #[.string x.src, .int .i64 x.num, .int .i64 x.tick, .int .i64 x.kind, .string x.person, .string x.item, .int .i64 x.value, .string x.text] 36)).alloc (.cells #[] 36)) (w5.heap.size + 1) 8 (some ⟨w5.heap.size, 0, none⟩) 1 (evC x)) := Lib.hid (RowIn.alloc (one_ev' w5 x 36) (by simp) _)
    have HBA : Hid (∀ ob : Obj, Below w5.heap.size w5 (w5.alloc ob).drew) := Lib.hid (fun ob => below_drew ((Below.refl _ _).alloc (Nat.le_refl _) _))
    have HBA0 : Hid (∀ ob : Obj, Below w5.heap.size w5 (w5.alloc ob)) := Lib.hid (fun ob => (Below.refl _ _).alloc (Nat.le_refl _) _)
    have HBB : Hid (∀ ob o2 : Obj, Below w5.heap.size w5 ((w5.alloc ob).alloc o2).drew) := Lib.hid (fun ob o2 => below_drew (((Below.refl _ _).alloc (Nat.le_refl _) _).alloc (by simp) _))
    have HBB0 : Hid (∀ ob o2 : Obj, Below w5.heap.size w5 ((w5.alloc ob).alloc o2)) := Lib.hid (fun ob o2 => ((Below.refl _ _).alloc (Nat.le_refl _) _).alloc (by simp) _)
    have HBX : Hid (∀ (W : World) (ob : Obj), Below w5.heap.size w5 W → Below w5.heap.size w5 (W.alloc ob)) := Lib.hid (fun W ob h => h.alloc h.size _)
    have HON1 := Lib.hid (evC_one es)
    have HONX : Hid (∀ u ∈ evC x, u.oneCell' = true) := Lib.hid (fun u hu => evC_one [x] u (by simpa using hu))
    have P1 : Hid (0 + n ≤ maxLen) := Lib.hid (by unfold maxLen; omega)
    have P2 : Hid ((0 + n) * 96 ≤ 140737488355328) := Lib.hid (by omega)
    have P3 : Hid (0 + n + 1 ≤ maxLen) := Lib.hid (by unfold maxLen; omega)
    have P4 : Hid ((0 + n + 1) * 96 ≤ 140737488355328) := Lib.hid (by omega)
    have HBLT : Hid (w.heap.size < w5.heap.size) := Lib.hid HLTB.out
    have HKE : Hid (BoxE w5 w.heap.size x) := HK4
    have HKR : Hid (World.cell? w5.drew ⟨w.heap.size, 0, none⟩ = some (.string x.src) ∧ World.cell? w5.drew ⟨w.heap.size, 1, none⟩ = some (.int .i64 x.num) ∧ World.cell? w5.drew ⟨w.heap.size, 2, none⟩ = some (.int .i64 x.tick) ∧ World.cell? w5.drew ⟨w.heap.size, 3, none⟩ = some (.int .i64 x.kind) ∧ World.cell? w5.drew ⟨w.heap.size, 4, none⟩ = some (.string x.person) ∧ World.cell? w5.drew ⟨w.heap.size, 5, none⟩ = some (.string x.item) ∧ World.cell? w5.drew ⟨w.heap.size, 6, none⟩ = some (.int .i64 x.value) ∧ World.cell? w5.drew ⟨w.heap.size, 7, none⟩ = some (.string x.text)) := HK4
    have HKA : Hid (∀ ob : Obj, World.cell? (w5.alloc ob).drew ⟨w.heap.size, 0, none⟩ = some (.string x.src) ∧ World.cell? (w5.alloc ob).drew ⟨w.heap.size, 1, none⟩ = some (.int .i64 x.num) ∧ World.cell? (w5.alloc ob).drew ⟨w.heap.size, 2, none⟩ = some (.int .i64 x.tick) ∧ World.cell? (w5.alloc ob).drew ⟨w.heap.size, 3, none⟩ = some (.int .i64 x.kind) ∧ World.cell? (w5.alloc ob).drew ⟨w.heap.size, 4, none⟩ = some (.string x.person) ∧ World.cell? (w5.alloc ob).drew ⟨w.heap.size, 5, none⟩ = some (.string x.item) ∧ World.cell? (w5.alloc ob).drew ⟨w.heap.size, 6, none⟩ = some (.int .i64 x.value) ∧ World.cell? (w5.alloc ob).drew ⟨w.heap.size, 7, none⟩ = some (.string x.text)) := Lib.hid (fun ob => HKE.out.keep (fun j => World.cell?_alloc_lt _ _ _ HBLT.out))
    have HKB : Hid (∀ ob o2 : Obj, World.cell? ((w5.alloc ob).alloc o2).drew ⟨w.heap.size, 0, none⟩ = some (.string x.src) ∧ World.cell? ((w5.alloc ob).alloc o2).drew ⟨w.heap.size, 1, none⟩ = some (.int .i64 x.num) ∧ World.cell? ((w5.alloc ob).alloc o2).drew ⟨w.heap.size, 2, none⟩ = some (.int .i64 x.tick) ∧ World.cell? ((w5.alloc ob).alloc o2).drew ⟨w.heap.size, 3, none⟩ = some (.int .i64 x.kind) ∧ World.cell? ((w5.alloc ob).alloc o2).drew ⟨w.heap.size, 4, none⟩ = some (.string x.person) ∧ World.cell? ((w5.alloc ob).alloc o2).drew ⟨w.heap.size, 5, none⟩ = some (.string x.item) ∧ World.cell? ((w5.alloc ob).alloc o2).drew ⟨w.heap.size, 6, none⟩ = some (.int .i64 x.value) ∧ World.cell? ((w5.alloc ob).alloc o2).drew ⟨w.heap.size, 7, none⟩ = some (.string x.text)) := Lib.hid (fun ob o2 => HKE.out.keep (fun j => (World.cell?_alloc_lt (w5.alloc ob) o2 ⟨w.heap.size, j, none⟩ (by have := HBLT.out; simp; omega)).trans (World.cell?_alloc_lt _ _ _ HBLT.out)))
    have c0 := HKE.out.1
    have c1 := HKE.out.2.1
    have c2 := HKE.out.2.2.1
    have c3 := HKE.out.2.2.2.1
    have c4 := HKE.out.2.2.2.2.1
    have c5 := HKE.out.2.2.2.2.2.1
    have c6 := HKE.out.2.2.2.2.2.2.1
    have c7 := HKE.out.2.2.2.2.2.2.2
    go_wp2_with fail
    go_region_held3 (fun W => World.cell? W ⟨w.heap.size, 0, none⟩ = some (.string x.src) ∧ World.cell? W ⟨w.heap.size, 1, none⟩ = some (.int .i64 x.num) ∧ World.cell? W ⟨w.heap.size, 2, none⟩ = some (.int .i64 x.tick) ∧ World.cell? W ⟨w.heap.size, 3, none⟩ = some (.int .i64 x.kind) ∧ World.cell? W ⟨w.heap.size, 4, none⟩ = some (.string x.person) ∧ World.cell? W ⟨w.heap.size, 5, none⟩ = some (.string x.item) ∧ World.cell? W ⟨w.heap.size, 6, none⟩ = some (.int .i64 x.value) ∧ World.cell? W ⟨w.heap.size, 7, none⟩ = some (.string x.text))
      (first | with_reducible exact HKR.out | with_reducible exact HKE.out | with_reducible exact HKX.out | with_reducible exact HKXA.out _ | with_reducible exact HKY.out | with_reducible exact HKA.out _ | with_reducible exact HKB.out _ _ | exact HKR.out | exact HKX.out | exact HKXA.out _ | exact HKY.out | exact HKA.out _ | exact HKB.out _ _)
      (first
        | (refine step_append_row _ (by rfl) (.tmp 26) (.tmp 27) 22 (by rfl) w5.heap.size 36 i0 _ 8 96 Tryd.underlying22 hi0 hz0 hz1 hz2 rfl (by decide) (.slice (some ⟨w5.heap.size, 0, none⟩) 0 0) 0 [] (by rfl) HOA.out w5.heap.size ((some ⟨g, o, none⟩)) n c _ (by rfl) (HRE.out _) HNIL.out HON1.out P1.out P2.out (by simp <;> omega) ?_; intro v1 wx ho1 hg1 hv1; have b1 : Below w5.heap.size w5 wx := bel1 (by first | exact HBA.out _ | exact HBA0.out _ | exact HBB.out _ _ | exact HBB0.out _ _ | exact b1 | exact HBX.out _ _ b1 | exact b2 | exact HBX.out _ _ b2) hg1 (fun j hj => by first | exact (ho1.lt _ hj).1 | exact (ho2.lt _ hj).1 | (cases hj; exact Nat.le_refl _) | (cases hj; exact Nat.le_succ _)); have HKX : Hid (World.cell? wx ⟨w.heap.size, 0, none⟩ = some (.string x.src) ∧ World.cell? wx ⟨w.heap.size, 1, none⟩ = some (.int .i64 x.num) ∧ World.cell? wx ⟨w.heap.size, 2, none⟩ = some (.int .i64 x.tick) ∧ World.cell? wx ⟨w.heap.size, 3, none⟩ = some (.int .i64 x.kind) ∧ World.cell? wx ⟨w.heap.size, 4, none⟩ = some (.string x.person) ∧ World.cell? wx ⟨w.heap.size, 5, none⟩ = some (.string x.item) ∧ World.cell? wx ⟨w.heap.size, 6, none⟩ = some (.int .i64 x.value) ∧ World.cell? wx ⟨w.heap.size, 7, none⟩ = some (.string x.text)) := Lib.hid (HKE.out.keep (fun j => b1.cell (p := ⟨w.heap.size, j, none⟩) HBLT.out)); have HKXA : Hid (∀ ob : Obj, World.cell? (wx.alloc ob) ⟨w.heap.size, 0, none⟩ = some (.string x.src) ∧ World.cell? (wx.alloc ob) ⟨w.heap.size, 1, none⟩ = some (.int .i64 x.num) ∧ World.cell? (wx.alloc ob) ⟨w.heap.size, 2, none⟩ = some (.int .i64 x.tick) ∧ World.cell? (wx.alloc ob) ⟨w.heap.size, 3, none⟩ = some (.int .i64 x.kind) ∧ World.cell? (wx.alloc ob) ⟨w.heap.size, 4, none⟩ = some (.string x.person) ∧ World.cell? (wx.alloc ob) ⟨w.heap.size, 5, none⟩ = some (.string x.item) ∧ World.cell? (wx.alloc ob) ⟨w.heap.size, 6, none⟩ = some (.int .i64 x.value) ∧ World.cell? (wx.alloc ob) ⟨w.heap.size, 7, none⟩ = some (.string x.text)) := Lib.hid (fun ob => BoxE.keep HKX.out (fun j => World.cell?_alloc_lt _ _ _ (Nat.lt_of_lt_of_le HBLT.out b1.size))))
        | (refine step_append_row _ (by rfl) (.tmp 26) (.tmp 27) 22 (by rfl) w5.heap.size 36 i0 _ 8 96 Tryd.underlying22 hi0 hz0 hz1 hz2 rfl (by decide) (.slice (some ⟨w5.heap.size, 0, none⟩) 0 0) 0 [] (by rfl) (HOA.out.alloc _) w5.heap.size ((some ⟨g, o, none⟩)) n c _ (by rfl) (HRN.out _ _) HNIL.out HON1.out P1.out P2.out (by simp <;> omega) ?_; intro v1 wx ho1 hg1 hv1; have b1 : Below w5.heap.size w5 wx := bel1 (by first | exact HBA.out _ | exact HBA0.out _ | exact HBB.out _ _ | exact HBB0.out _ _ | exact b1 | exact HBX.out _ _ b1 | exact b2 | exact HBX.out _ _ b2) hg1 (fun j hj => by first | exact (ho1.lt _ hj).1 | exact (ho2.lt _ hj).1 | (cases hj; exact Nat.le_refl _) | (cases hj; exact Nat.le_succ _)); have HKX : Hid (World.cell? wx ⟨w.heap.size, 0, none⟩ = some (.string x.src) ∧ World.cell? wx ⟨w.heap.size, 1, none⟩ = some (.int .i64 x.num) ∧ World.cell? wx ⟨w.heap.size, 2, none⟩ = some (.int .i64 x.tick) ∧ World.cell? wx ⟨w.heap.size, 3, none⟩ = some (.int .i64 x.kind) ∧ World.cell? wx ⟨w.heap.size, 4, none⟩ = some (.string x.person) ∧ World.cell? wx ⟨w.heap.size, 5, none⟩ = some (.string x.item) ∧ World.cell? wx ⟨w.heap.size, 6, none⟩ = some (.int .i64 x.value) ∧ World.cell? wx ⟨w.heap.size, 7, none⟩ = some (.string x.text)) := Lib.hid (HKE.out.keep (fun j => b1.cell (p := ⟨w.heap.size, j, none⟩) HBLT.out)); have HKXA : Hid (∀ ob : Obj, World.cell? (wx.alloc ob) ⟨w.heap.size, 0, none⟩ = some (.string x.src) ∧ World.cell? (wx.alloc ob) ⟨w.heap.size, 1, none⟩ = some (.int .i64 x.num) ∧ World.cell? (wx.alloc ob) ⟨w.heap.size, 2, none⟩ = some (.int .i64 x.tick) ∧ World.cell? (wx.alloc ob) ⟨w.heap.size, 3, none⟩ = some (.int .i64 x.kind) ∧ World.cell? (wx.alloc ob) ⟨w.heap.size, 4, none⟩ = some (.string x.person) ∧ World.cell? (wx.alloc ob) ⟨w.heap.size, 5, none⟩ = some (.string x.item) ∧ World.cell? (wx.alloc ob) ⟨w.heap.size, 6, none⟩ = some (.int .i64 x.value) ∧ World.cell? (wx.alloc ob) ⟨w.heap.size, 7, none⟩ = some (.string x.text)) := Lib.hid (fun ob => BoxE.keep HKX.out (fun j => World.cell?_alloc_lt _ _ _ (Nat.lt_of_lt_of_le HBLT.out b1.size))))
        | (refine step_append_row _ (by rfl) (.tmp 26) (.tmp 27) 22 (by rfl) w5.heap.size 36 i0 _ 8 96 Tryd.underlying22 hi0 hz0 hz1 hz2 rfl (by decide) (.slice (some ⟨w5.heap.size + 1, 0, none⟩) 0 0) 0 [] (by rfl) (HOC.out _) w5.heap.size ((some ⟨g, o, none⟩)) n c _ (by rfl) (HRN.out _ _) HNIL.out HON1.out P1.out P2.out (by simp <;> omega) ?_; intro v1 wx ho1 hg1 hv1; have b1 : Below w5.heap.size w5 wx := bel1 (by first | exact HBA.out _ | exact HBA0.out _ | exact HBB.out _ _ | exact HBB0.out _ _ | exact b1 | exact HBX.out _ _ b1 | exact b2 | exact HBX.out _ _ b2) hg1 (fun j hj => by first | exact (ho1.lt _ hj).1 | exact (ho2.lt _ hj).1 | (cases hj; exact Nat.le_refl _) | (cases hj; exact Nat.le_succ _)); have HKX : Hid (World.cell? wx ⟨w.heap.size, 0, none⟩ = some (.string x.src) ∧ World.cell? wx ⟨w.heap.size, 1, none⟩ = some (.int .i64 x.num) ∧ World.cell? wx ⟨w.heap.size, 2, none⟩ = some (.int .i64 x.tick) ∧ World.cell? wx ⟨w.heap.size, 3, none⟩ = some (.int .i64 x.kind) ∧ World.cell? wx ⟨w.heap.size, 4, none⟩ = some (.string x.person) ∧ World.cell? wx ⟨w.heap.size, 5, none⟩ = some (.string x.item) ∧ World.cell? wx ⟨w.heap.size, 6, none⟩ = some (.int .i64 x.value) ∧ World.cell? wx ⟨w.heap.size, 7, none⟩ = some (.string x.text)) := Lib.hid (HKE.out.keep (fun j => b1.cell (p := ⟨w.heap.size, j, none⟩) HBLT.out)); have HKXA : Hid (∀ ob : Obj, World.cell? (wx.alloc ob) ⟨w.heap.size, 0, none⟩ = some (.string x.src) ∧ World.cell? (wx.alloc ob) ⟨w.heap.size, 1, none⟩ = some (.int .i64 x.num) ∧ World.cell? (wx.alloc ob) ⟨w.heap.size, 2, none⟩ = some (.int .i64 x.tick) ∧ World.cell? (wx.alloc ob) ⟨w.heap.size, 3, none⟩ = some (.int .i64 x.kind) ∧ World.cell? (wx.alloc ob) ⟨w.heap.size, 4, none⟩ = some (.string x.person) ∧ World.cell? (wx.alloc ob) ⟨w.heap.size, 5, none⟩ = some (.string x.item) ∧ World.cell? (wx.alloc ob) ⟨w.heap.size, 6, none⟩ = some (.int .i64 x.value) ∧ World.cell? (wx.alloc ob) ⟨w.heap.size, 7, none⟩ = some (.string x.text)) := Lib.hid (fun ob => BoxE.keep HKX.out (fun j => World.cell?_alloc_lt _ _ _ (Nat.lt_of_lt_of_le HBLT.out b1.size))))
        | (refine step_append_row _ (by rfl) (.tmp 28) (.tmp 30) 22 (by rfl) w5.heap.size 36 i0 _ 8 96 Tryd.underlying22 hi0 hz0 hz1 hz2 rfl (by decide) v1 (0 + n) ([] ++ es.flatMap evC) (by rfl) (ho1.alloc _) (wx.heap.size + 1) (some ⟨wx.heap.size, 0, none⟩) 1 1 (evC x) (by rfl) (one_ev' wx x _) (fun h => by cases h) HONX.out P3.out P4.out (Nat.le_trans b1.size (by simp)) ?_; intro v2 wy ho2 hg2 hv2; have b2 : Below w5.heap.size w5 wy := bel1 (by first | exact HBA.out _ | exact HBA0.out _ | exact HBB.out _ _ | exact HBB0.out _ _ | exact b1 | exact HBX.out _ _ b1 | exact b2 | exact HBX.out _ _ b2) hg2 (fun j hj => by first | exact (ho1.lt _ hj).1 | exact (ho2.lt _ hj).1 | (cases hj; exact Nat.le_refl _) | (cases hj; exact Nat.le_succ _)); have HKY : Hid (World.cell? wy ⟨w.heap.size, 0, none⟩ = some (.string x.src) ∧ World.cell? wy ⟨w.heap.size, 1, none⟩ = some (.int .i64 x.num) ∧ World.cell? wy ⟨w.heap.size, 2, none⟩ = some (.int .i64 x.tick) ∧ World.cell? wy ⟨w.heap.size, 3, none⟩ = some (.int .i64 x.kind) ∧ World.cell? wy ⟨w.heap.size, 4, none⟩ = some (.string x.person) ∧ World.cell? wy ⟨w.heap.size, 5, none⟩ = some (.string x.item) ∧ World.cell? wy ⟨w.heap.size, 6, none⟩ = some (.int .i64 x.value) ∧ World.cell? wy ⟨w.heap.size, 7, none⟩ = some (.string x.text)) := Lib.hid (HKE.out.keep (fun j => b2.cell (p := ⟨w.heap.size, j, none⟩) HBLT.out)))
        | (refine step_append_row _ (by rfl) (.tmp 28) (.tmp 30) 22 (by rfl) w5.heap.size 36 i0 _ 8 96 Tryd.underlying22 hi0 hz0 hz1 hz2 rfl (by decide) v1 (0 + n) ([] ++ es.flatMap evC) (by rfl) ho1 (w5.heap.size + 2) (some ⟨w5.heap.size + 1, 0, none⟩) 1 1 (evC x) (by rfl) (row_grown (RowIn.drew H1B.out) (by simp <;> omega) (by simp [Value.ownBlock] <;> omega) hg1) (fun h => by cases h) HONX.out P3.out P4.out (Nat.le_trans b1.size (by simp)) ?_; intro v2 wy ho2 hg2 hv2; have b2 : Below w5.heap.size w5 wy := bel1 (by first | exact HBA.out _ | exact HBA0.out _ | exact HBB.out _ _ | exact HBB0.out _ _ | exact b1 | exact HBX.out _ _ b1 | exact b2 | exact HBX.out _ _ b2) hg2 (fun j hj => by first | exact (ho1.lt _ hj).1 | exact (ho2.lt _ hj).1 | (cases hj; exact Nat.le_refl _) | (cases hj; exact Nat.le_succ _)); have HKY : Hid (World.cell? wy ⟨w.heap.size, 0, none⟩ = some (.string x.src) ∧ World.cell? wy ⟨w.heap.size, 1, none⟩ = some (.int .i64 x.num) ∧ World.cell? wy ⟨w.heap.size, 2, none⟩ = some (.int .i64 x.tick) ∧ World.cell? wy ⟨w.heap.size, 3, none⟩ = some (.int .i64 x.kind) ∧ World.cell? wy ⟨w.heap.size, 4, none⟩ = some (.string x.person) ∧ World.cell? wy ⟨w.heap.size, 5, none⟩ = some (.string x.item) ∧ World.cell? wy ⟨w.heap.size, 6, none⟩ = some (.int .i64 x.value) ∧ World.cell? wy ⟨w.heap.size, 7, none⟩ = some (.string x.text)) := Lib.hid (HKE.out.keep (fun j => b2.cell (p := ⟨w.heap.size, j, none⟩) HBLT.out)))
        | (refine step_append_row _ (by rfl) (.tmp 28) (.tmp 30) 22 (by rfl) w5.heap.size 36 i0 _ 8 96 Tryd.underlying22 hi0 hz0 hz1 hz2 rfl (by decide) v1 (0 + n) ([] ++ es.flatMap evC) (by rfl) ho1 (w5.heap.size + 1) (some ⟨w5.heap.size, 0, none⟩) 1 1 (evC x) (by rfl) (row_grown (RowIn.drew H1C.out) (by simp <;> omega) (by simp [Value.ownBlock] <;> omega) hg1) (fun h => by cases h) HONX.out P3.out P4.out (Nat.le_trans b1.size (by simp)) ?_; intro v2 wy ho2 hg2 hv2; have b2 : Below w5.heap.size w5 wy := bel1 (by first | exact HBA.out _ | exact HBA0.out _ | exact HBB.out _ _ | exact HBB0.out _ _ | exact b1 | exact HBX.out _ _ b1 | exact b2 | exact HBX.out _ _ b2) hg2 (fun j hj => by first | exact (ho1.lt _ hj).1 | exact (ho2.lt _ hj).1 | (cases hj; exact Nat.le_refl _) | (cases hj; exact Nat.le_succ _)); have HKY : Hid (World.cell? wy ⟨w.heap.size, 0, none⟩ = some (.string x.src) ∧ World.cell? wy ⟨w.heap.size, 1, none⟩ = some (.int .i64 x.num) ∧ World.cell? wy ⟨w.heap.size, 2, none⟩ = some (.int .i64 x.tick) ∧ World.cell? wy ⟨w.heap.size, 3, none⟩ = some (.int .i64 x.kind) ∧ World.cell? wy ⟨w.heap.size, 4, none⟩ = some (.string x.person) ∧ World.cell? wy ⟨w.heap.size, 5, none⟩ = some (.string x.item) ∧ World.cell? wy ⟨w.heap.size, 6, none⟩ = some (.int .i64 x.value) ∧ World.cell? wy ⟨w.heap.size, 7, none⟩ = some (.string x.text)) := Lib.hid (HKE.out.keep (fun j => b2.cell (p := ⟨w.heap.size, j, none⟩) HBLT.out))))
    all_goals
      go_wp2_with fail
    all_goals
      obtain ⟨A9, c9, hr9⟩ := own_shape ho2
      subst hr9
      go_ret2
      refine ⟨A9, c9, ?_, ?_, ?_, Or.inr (fun ad h => ?_), HB4.out.trans (b2.mono HB4.out.size)⟩
      · rw [HAF.out, HTB.out, List.length_append, HN.out, show n + [x].length = 0 + n + 1 by simp]; rfl
      · rw [HAF.out]; have := RowIn.of_own ho2; unfold EvsAt; rw [List.length_append, HN.out, show n + [x].length = 0 + n + 1 by simp, List.flatMap_append, show [x].flatMap evC = evC x by simp]; exact this
      · intro h; subst h; rcases ho2.2 with ⟨h, h0⟩ | ⟨_, _, _, h, _⟩
        · injection h with _ _ h3
        · injection h with h; cases h
      · subst h
        rcases ho2.2 with ⟨h, h0⟩ | ⟨g9, cap9, cur9, h, hg9, hh9, _⟩
        · injection h with h; cases h
        · injection h with h; injection h with h; rw [h]; exact ⟨Nat.le_trans HB4.out.size hg9, (Array.getElem?_eq_some_iff.1 hh9).1⟩
end Go.Proofs.YtpnfnmpohacnoaaDoor
