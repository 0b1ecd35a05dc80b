/- A rule's own text: rule.text; (*Rule).Text. -/
import Derived.Test.YtpgbgeofhcpocaaGreatDoorRuT
namespace Go.Proofs.YtpgbgeofhcpocaaGreatDoor
open Go.RowKit Go.Maps Go.Shelf
set_option linter.unusedVariables false

theorem ownB_size (n : Nd) (k : Nat) : (ownB n k).size = (ownN n k).length := by unfold ownB; show ((ownN n k).toArray).size = _; rw [List.size_toArray]
theorem leafB (a : Leaf) (k : Nat) : ownB (.atom a) k = leafT a := rfl
theorem leafT_size (a : Leaf) : (leafT a).size = (ownN (.atom a) 0).length := by rw [ownN]; show (leafT a).data.size = _; rw [Array.length_toList]
set_option maxHeartbeats 4000000 in
set_option maxRecDepth 100000 in
theorem plain_of (x : ByteArray) (w : World) : Calls Tryz.prog 17 #[.iface 84 (.agg #[.string x])] w fun e w' => e = .returned (.string x) ∧ Below w.heap.size w w' := by
  have hta0 : ∀ V, (Instr.typeAssert (.iface 84 (.agg #[.string x])) 49 73 true).run Tryz.prog V = .ok (.tuple #[.agg #[.slice none 0 0], .bool false]) V := fun V => ta_not ⟨_, Tryz.underlying73⟩ zEither (by decide) _ V
  have hta1 : ∀ V, (Instr.typeAssert (.iface 84 (.agg #[.string x])) 49 75 true).run Tryz.prog V = .ok (.tuple #[.agg #[.slice none 0 0], .bool false]) V := fun V => ta_not ⟨_, Tryz.underlying75⟩ zBoth (by decide) _ V
  have hta2 : ∀ V, (Instr.typeAssert (.iface 84 (.agg #[.string x])) 49 77 true).run Tryz.prog V = .ok (.tuple #[.agg #[.nilIface], .bool false]) V := fun V => ta_not ⟨_, Tryz.underlying77⟩ zNo (by decide) _ V
  have hta3 : ∀ V, (Instr.typeAssert (.iface 84 (.agg #[.string x])) 49 79 true).run Tryz.prog V = .ok (.tuple #[.agg #[.string ⟨#[]⟩, .string ⟨#[]⟩], .bool false]) V := fun V => ta_not ⟨_, Tryz.underlying79⟩ zNamed (by decide) _ V
  have hta4 : ∀ V, (Instr.typeAssert (.iface 84 (.agg #[.string x])) 49 81 true).run Tryz.prog V = .ok (.tuple #[.agg #[.string ⟨#[]⟩, .bool false, .int .i64 0], .bool false]) V := fun V => ta_not ⟨_, Tryz.underlying81⟩ zNumber (by decide) _ V
  have hta5 : ∀ V, (Instr.typeAssert (.iface 84 (.agg #[.string x])) 49 84 true).run Tryz.prog V = .ok (.tuple #[.agg #[.string x], .bool true]) V := fun V => ta_yes ⟨_, Tryz.underlying84⟩ _ V
  go_enter Tryz.func17, Tryz.ntmps17
  go_wp2_with fail
  go_ret
  exact ⟨rfl, (Below.refl _ _).alloc (Nat.le_refl _) _⟩
set_option maxHeartbeats 4000000 in
set_option maxRecDepth 100000 in
theorem named_of (x y : ByteArray) (w : World) (hs : x.size + y.size ≤ 1000000) : Calls Tryz.prog 17 #[.iface 79 (.agg #[.string x, .string y])] w fun e w' => e = .returned (.string (x ++ colonW ++ y)) ∧ Below w.heap.size w w' := by
  have hadd1 : ∀ (u : World), (Op.stringOp .add x ⟨#[58]⟩).run Tryz.prog u = .ok (.string (x ++ ⟨#[58]⟩)) u := fun u => run_string_add_sum _ _ _ (by show x.size + 1 ≤ 9223372036854775807; omega)
  have hadd2 : ∀ (u : World), (Op.stringOp .add (x ++ ⟨#[58]⟩) y).run Tryz.prog u = .ok (.string (x ++ ⟨#[58]⟩ ++ y)) u := fun u => run_string_add_sum _ _ _ (by rw [ByteArray.size_append]; show x.size + 1 + y.size ≤ 9223372036854775807; omega)
  have hta0 : ∀ V, (Instr.typeAssert (.iface 79 (.agg #[.string x, .string y])) 49 73 true).run Tryz.prog V = .ok (.tuple #[.agg #[.slice none 0 0], .bool false]) V := fun V => ta_not ⟨_, Tryz.underlying73⟩ zEither (by decide) _ V
  have hta1 : ∀ V, (Instr.typeAssert (.iface 79 (.agg #[.string x, .string y])) 49 75 true).run Tryz.prog V = .ok (.tuple #[.agg #[.slice none 0 0], .bool false]) V := fun V => ta_not ⟨_, Tryz.underlying75⟩ zBoth (by decide) _ V
  have hta2 : ∀ V, (Instr.typeAssert (.iface 79 (.agg #[.string x, .string y])) 49 77 true).run Tryz.prog V = .ok (.tuple #[.agg #[.nilIface], .bool false]) V := fun V => ta_not ⟨_, Tryz.underlying77⟩ zNo (by decide) _ V
  have hta3 : ∀ V, (Instr.typeAssert (.iface 79 (.agg #[.string x, .string y])) 49 79 true).run Tryz.prog V = .ok (.tuple #[.agg #[.string x, .string y], .bool true]) V := fun V => ta_yes ⟨_, Tryz.underlying79⟩ _ V
  go_enter Tryz.func17, Tryz.ntmps17
  go_wp2_with fail
  go_ret
  exact ⟨rfl, (Below.refl _ _).alloc (Nat.le_refl _) _⟩
set_option maxHeartbeats 4000000 in
set_option maxRecDepth 100000 in
theorem number_false (x : ByteArray) (n : Nat) (w : World) (hs : x.size + (digW n).size ≤ 1000000) (hn : n ≤ 1099511627776) (htab : TabAt w) : Calls Tryz.prog 17 #[.iface 81 (.agg #[.string x, .bool false, .int .i64 n])] w fun e w' => e = .returned (.string (x ++ ⟨#[62]⟩ ++ digW n)) ∧ Below w.heap.size w w' := by
  have hdig : (⟨(Lib.itoa (n : Int)).toArray⟩ : ByteArray) = digW n := by
    unfold digW Lib.itoa
    rw [if_neg (by omega)]
    simp
  obtain ⟨dg, hdg⟩ : ∃ dg, digW n = dg := ⟨_, rfl⟩
  rw [hdg] at hs hdig
  have hadd1 : ∀ (u : World), (Op.stringOp .add x ⟨#[62]⟩).run Tryz.prog u = .ok (.string (x ++ ⟨#[62]⟩)) u := fun u => run_string_add_sum _ _ _ (by show x.size + 1 ≤ 9223372036854775807; omega)
  have hadd2 : ∀ (u : World), (Op.stringOp .add (x ++ ⟨#[62]⟩) dg).run Tryz.prog u = .ok (.string (x ++ ⟨#[62]⟩ ++ dg)) u := fun u => run_string_add_sum _ _ _ (by rw [ByteArray.size_append]; show x.size + 1 + dg.size ≤ 9223372036854775807; omega)
  have hta0 : ∀ V, (Instr.typeAssert (.iface 81 (.agg #[.string x, .bool false, .int .i64 n])) 49 73 true).run Tryz.prog V = .ok (.tuple #[.agg #[.slice none 0 0], .bool false]) V := fun V => ta_not ⟨_, Tryz.underlying73⟩ zEither (by decide) _ V
  have hta1 : ∀ V, (Instr.typeAssert (.iface 81 (.agg #[.string x, .bool false, .int .i64 n])) 49 75 true).run Tryz.prog V = .ok (.tuple #[.agg #[.slice none 0 0], .bool false]) V := fun V => ta_not ⟨_, Tryz.underlying75⟩ zBoth (by decide) _ V
  have hta2 : ∀ V, (Instr.typeAssert (.iface 81 (.agg #[.string x, .bool false, .int .i64 n])) 49 77 true).run Tryz.prog V = .ok (.tuple #[.agg #[.nilIface], .bool false]) V := fun V => ta_not ⟨_, Tryz.underlying77⟩ zNo (by decide) _ V
  have hta3 : ∀ V, (Instr.typeAssert (.iface 81 (.agg #[.string x, .bool false, .int .i64 n])) 49 79 true).run Tryz.prog V = .ok (.tuple #[.agg #[.string ⟨#[]⟩, .string ⟨#[]⟩], .bool false]) V := fun V => ta_not ⟨_, Tryz.underlying79⟩ zNamed (by decide) _ V
  have hta4 : ∀ V, (Instr.typeAssert (.iface 81 (.agg #[.string x, .bool false, .int .i64 n])) 49 81 true).run Tryz.prog V = .ok (.tuple #[.agg #[.string x, .bool false, .int .i64 n], .bool true]) V := fun V => ta_yes ⟨_, Tryz.underlying81⟩ _ V
  obtain ⟨w1, hw1⟩ : ∃ w1, w.alloc (.cells #[.string x, .bool false, .int .i64 n] 81) = w1 := ⟨_, rfl⟩
  have hb1 : Below w.heap.size w w1 := by rw [← hw1]; exact (Below.refl _ _).alloc (Nat.le_refl _) _
  have hk1 : Blk w1 w.heap.size 81 #[.string x, .bool false, .int .i64 n] := by rw [← hw1]; exact Blk.new _ _ _
  have c1 : w1.cell? ⟨w.heap.size, 1, none⟩ = some (.bool false) := hk1.cell 1
  have HS0 : Hid (Below w1.heap.size w1 w1.drew) := Lib.hid (below_drew (Below.refl _ _))
  have HSC : Hid (∀ W, Below w1.heap.size w1 W → W.cell? ⟨w.heap.size, 0, none⟩ = some (.string x) ∧ W.cell? ⟨w.heap.size, 2, none⟩ = some (.int .i64 n)) := Lib.hid (fun W hW => ⟨(hW.cell (p := ⟨w.heap.size, 0, none⟩) hk1.lt).trans (hk1.cell 0), (hW.cell (p := ⟨w.heap.size, 2, none⟩) hk1.lt).trans (hk1.cell 2)⟩)
  have HB1 := Lib.hid hb1
  have HI := fun W => fun (hW : Below w1.heap.size w1 W) => itoa_any (n : Int) (by omega) (by omega) W ((htab.keep hb1).keep hW)
  rw [hdig] at HI
  have HI := Lib.hid HI
  rw [hdg]
  clear htab hb1 hk1 hdig
  go_enter Tryz.func17, Tryz.ntmps17
  go_upto_region 19 with fail
  refine wp_plan (fun W => Below w1.heap.size w1 W) [(0, false), (1, false), (2, false), (3, false), (4, false), (5, false), (6, true), (7, false), (8, false)] (by kernel_rfl) (by kernel_rfl) HS0.out ?_
  simp only [planL, List.getElem?_cons_zero, List.getElem?_cons_succ]
  repeat (first | (refine plan_on _ (by rfl) (fun W hW => by (obtain ⟨x0, x1⟩ := HSC.out W hW; go_simp; try with_reducible rfl)) ?_; simp only [Act.put, List.setIfInBounds_toArray, List.set_cons_zero, List.set_cons_succ]) | (refine plan_off (by rfl) ?_; simp only [Act.put, List.setIfInBounds_toArray, List.set_cons_zero, List.set_cons_succ]))
  refine plan_turn ?_
  go_wp2_with fail
  refine (HI.out _ HS0.out).mono ?_
  rintro e w3 ⟨rfl, hb3⟩
  have HB3 : Hid (Below w1.heap.size w1 w3) := Lib.hid (HS0.out.trans hb3)
  clear hb3
  go_wp2_with fail
  refine ⟨HB3.out, ?_⟩
  repeat (first | (refine plan_on _ (by rfl) (fun W hW => by (obtain ⟨x0, x1⟩ := HSC.out W hW; go_simp; try with_reducible rfl)) ?_; simp only [Act.put, List.setIfInBounds_toArray, List.set_cons_zero, List.set_cons_succ]) | (refine plan_off (by rfl) ?_; simp only [Act.put, List.setIfInBounds_toArray, List.set_cons_zero, List.set_cons_succ]))
  refine plan_done ?_
  go_wp2_with fail
  go_ret
  exact ⟨rfl, HB1.out.trans (HB3.out.mono HB1.out.size)⟩
set_option maxHeartbeats 4000000 in
set_option maxRecDepth 100000 in
theorem number_true (x : ByteArray) (n : Nat) (w : World) (hs : x.size + (digW n).size ≤ 1000000) (hn : n ≤ 1099511627776) (htab : TabAt w) : Calls Tryz.prog 17 #[.iface 81 (.agg #[.string x, .bool true, .int .i64 n])] w fun e w' => e = .returned (.string (x ++ ⟨#[60]⟩ ++ digW n)) ∧ Below w.heap.size w w' := by
  have hdig : (⟨(Lib.itoa (n : Int)).toArray⟩ : ByteArray) = digW n := by
    unfold digW Lib.itoa
    rw [if_neg (by omega)]
    simp
  obtain ⟨dg, hdg⟩ : ∃ dg, digW n = dg := ⟨_, rfl⟩
  rw [hdg] at hs hdig
  have hadd1 : ∀ (u : World), (Op.stringOp .add x ⟨#[60]⟩).run Tryz.prog u = .ok (.string (x ++ ⟨#[60]⟩)) u := fun u => run_string_add_sum _ _ _ (by show x.size + 1 ≤ 9223372036854775807; omega)
  have hadd2 : ∀ (u : World), (Op.stringOp .add (x ++ ⟨#[60]⟩) dg).run Tryz.prog u = .ok (.string (x ++ ⟨#[60]⟩ ++ dg)) u := fun u => run_string_add_sum _ _ _ (by rw [ByteArray.size_append]; show x.size + 1 + dg.size ≤ 9223372036854775807; omega)
  have hta0 : ∀ V, (Instr.typeAssert (.iface 81 (.agg #[.string x, .bool true, .int .i64 n])) 49 73 true).run Tryz.prog V = .ok (.tuple #[.agg #[.slice none 0 0], .bool false]) V := fun V => ta_not ⟨_, Tryz.underlying73⟩ zEither (by decide) _ V
  have hta1 : ∀ V, (Instr.typeAssert (.iface 81 (.agg #[.string x, .bool true, .int .i64 n])) 49 75 true).run Tryz.prog V = .ok (.tuple #[.agg #[.slice none 0 0], .bool false]) V := fun V => ta_not ⟨_, Tryz.underlying75⟩ zBoth (by decide) _ V
  have hta2 : ∀ V, (Instr.typeAssert (.iface 81 (.agg #[.string x, .bool true, .int .i64 n])) 49 77 true).run Tryz.prog V = .ok (.tuple #[.agg #[.nilIface], .bool false]) V := fun V => ta_not ⟨_, Tryz.underlying77⟩ zNo (by decide) _ V
  have hta3 : ∀ V, (Instr.typeAssert (.iface 81 (.agg #[.string x, .bool true, .int .i64 n])) 49 79 true).run Tryz.prog V = .ok (.tuple #[.agg #[.string ⟨#[]⟩, .string ⟨#[]⟩], .bool false]) V := fun V => ta_not ⟨_, Tryz.underlying79⟩ zNamed (by decide) _ V
  have hta4 : ∀ V, (Instr.typeAssert (.iface 81 (.agg #[.string x, .bool true, .int .i64 n])) 49 81 true).run Tryz.prog V = .ok (.tuple #[.agg #[.string x, .bool true, .int .i64 n], .bool true]) V := fun V => ta_yes ⟨_, Tryz.underlying81⟩ _ V
  obtain ⟨w1, hw1⟩ : ∃ w1, w.alloc (.cells #[.string x, .bool true, .int .i64 n] 81) = w1 := ⟨_, rfl⟩
  have hb1 : Below w.heap.size w w1 := by rw [← hw1]; exact (Below.refl _ _).alloc (Nat.le_refl _) _
  have hk1 : Blk w1 w.heap.size 81 #[.string x, .bool true, .int .i64 n] := by rw [← hw1]; exact Blk.new _ _ _
  have c1 : w1.cell? ⟨w.heap.size, 1, none⟩ = some (.bool true) := hk1.cell 1
  have HS0 : Hid (Below w1.heap.size w1 w1.drew) := Lib.hid (below_drew (Below.refl _ _))
  have HSC : Hid (∀ W, Below w1.heap.size w1 W → W.cell? ⟨w.heap.size, 0, none⟩ = some (.string x) ∧ W.cell? ⟨w.heap.size, 2, none⟩ = some (.int .i64 n)) := Lib.hid (fun W hW => ⟨(hW.cell (p := ⟨w.heap.size, 0, none⟩) hk1.lt).trans (hk1.cell 0), (hW.cell (p := ⟨w.heap.size, 2, none⟩) hk1.lt).trans (hk1.cell 2)⟩)
  have HB1 := Lib.hid hb1
  have HI := fun W => fun (hW : Below w1.heap.size w1 W) => itoa_any (n : Int) (by omega) (by omega) W ((htab.keep hb1).keep hW)
  rw [hdig] at HI
  have HI := Lib.hid HI
  rw [hdg]
  clear htab hb1 hk1 hdig
  go_enter Tryz.func17, Tryz.ntmps17
  go_upto_region 19 with fail
  refine wp_plan (fun W => Below w1.heap.size w1 W) [(0, false), (1, false), (2, false), (3, false), (4, false), (5, false), (6, true), (7, false), (8, false)] (by kernel_rfl) (by kernel_rfl) HS0.out ?_
  simp only [planL, List.getElem?_cons_zero, List.getElem?_cons_succ]
  repeat (first | (refine plan_on _ (by rfl) (fun W hW => by (obtain ⟨x0, x1⟩ := HSC.out W hW; go_simp; try with_reducible rfl)) ?_; simp only [Act.put, List.setIfInBounds_toArray, List.set_cons_zero, List.set_cons_succ]) | (refine plan_off (by rfl) ?_; simp only [Act.put, List.setIfInBounds_toArray, List.set_cons_zero, List.set_cons_succ]))
  refine plan_turn ?_
  go_wp2_with fail
  refine (HI.out _ HS0.out).mono ?_
  rintro e w3 ⟨rfl, hb3⟩
  have HB3 : Hid (Below w1.heap.size w1 w3) := Lib.hid (HS0.out.trans hb3)
  clear hb3
  go_wp2_with fail
  refine ⟨HB3.out, ?_⟩
  repeat (first | (refine plan_on _ (by rfl) (fun W hW => by (obtain ⟨x0, x1⟩ := HSC.out W hW; go_simp; try with_reducible rfl)) ?_; simp only [Act.put, List.setIfInBounds_toArray, List.set_cons_zero, List.set_cons_succ]) | (refine plan_off (by rfl) ?_; simp only [Act.put, List.setIfInBounds_toArray, List.set_cons_zero, List.set_cons_succ]))
  refine plan_done ?_
  go_wp2_with fail
  go_ret
  exact ⟨rfl, HB1.out.trans (HB3.out.mono HB1.out.size)⟩

set_option maxHeartbeats 4000000 in
set_option maxRecDepth 100000 in
theorem notnode_of (n : Nd) (hnf : NF n) (hsz : (ownN n 0).length ≤ 1000000) (hT : TextOk n) (B : Nat) (v : Value) (w : World) (hv : NdAt w B n v) (ht : TabAt w) :
    Calls Tryz.prog 17 #[.iface 77 (.agg #[v])] w fun e w' => e = .returned (.string (ownB (.no n) 0)) ∧ Below w.heap.size w w' := by
  have hvf : v = .nilIface ∨ ∃ t x, v = .iface t x := by
    rcases nd_form hv with ⟨a, rfl, rfl⟩ | ⟨m, u, rfl, rfl, hu⟩ | ⟨k, l, A, m, c, xs, rfl, rfl, hr, hl, h⟩
    · cases a <;> exact Or.inr ⟨_, _, rfl⟩
    · exact Or.inr ⟨_, _, rfl⟩
    · exact Or.inr ⟨_, _, rfl⟩
  have hs3 : (ownB n 3).size ≤ 1000002 := by
    rw [ownB_size]
    have h2 : (ownN n 3).length ≤ (ownN n 0).length + 2 := by
      cases n with
      | atom a => rw [ownN, ownN]; omega
      | no n => rw [ownN, ownN]; omega
      | row k l => rw [ownN, ownN, if_neg (by omega : ¬ k + 1 < 0)]; split <;> simp
    omega
  have HE : Hid (ownB (.no n) 0 = ⟨#[110, 111, 116, 32]⟩ ++ ownB n 3) := Lib.hid (ba_ext (by
    rw [ba_app]
    unfold ownB
    rw [ownN]
    simp [notW]))
  have hb1 : Below w.heap.size w (w.alloc (.cells #[v] 77)) := (Below.refl _ _).alloc (Nat.le_refl _) _
  have HW := Lib.hid (within_of n hnf hsz hT B v _ (hv.under hb1) (ht.keep hb1))
  obtain ⟨oc, hoc⟩ : ∃ oc, ownB n 3 = oc := ⟨_, rfl⟩
  rw [hoc] at HW HE hs3
  have hadd1 : ∀ (u : World), (Op.stringOp .add ⟨#[110, 111, 116, 32]⟩ oc).run Tryz.prog u = .ok (.string (⟨#[110, 111, 116, 32]⟩ ++ oc)) u := fun u => run_string_add_sum _ _ _ (by show 4 + oc.size ≤ 9223372036854775807; omega)
  have HB1 := Lib.hid hb1
  rw [HE.out]
  clear hv ht hb1 hoc hT hsz hs3 hnf
  rcases hvf with rfl | ⟨tv, xv, rfl⟩
  · have hta0 : ∀ V, (Instr.typeAssert (.iface 77 (.agg #[.nilIface])) 49 73 true).run Tryz.prog V = .ok (.tuple #[.agg #[.slice none 0 0], .bool false]) V := fun V => ta_not ⟨_, Tryz.underlying73⟩ zEither (by decide) _ V
    have hta1 : ∀ V, (Instr.typeAssert (.iface 77 (.agg #[.nilIface])) 49 75 true).run Tryz.prog V = .ok (.tuple #[.agg #[.slice none 0 0], .bool false]) V := fun V => ta_not ⟨_, Tryz.underlying75⟩ zBoth (by decide) _ V
    have hta2 : ∀ V, (Instr.typeAssert (.iface 77 (.agg #[.nilIface])) 49 77 true).run Tryz.prog V = .ok (.tuple #[.agg #[.nilIface], .bool true]) V := fun V => ta_yes ⟨_, Tryz.underlying77⟩ _ V
    go_enter Tryz.func17, Tryz.ntmps17
    go_wp2_with fail
    refine HW.out.mono ?_
    rintro e w3 ⟨rfl, hb3⟩
    have HB3 := Lib.hid (HB1.out.trans (hb3.mono HB1.out.size))
    clear hb3
    go_wp2_with fail
    go_ret
    exact ⟨rfl, HB3.out⟩
  · have hta0 : ∀ V, (Instr.typeAssert (.iface 77 (.agg #[.iface tv xv])) 49 73 true).run Tryz.prog V = .ok (.tuple #[.agg #[.slice none 0 0], .bool false]) V := fun V => ta_not ⟨_, Tryz.underlying73⟩ zEither (by decide) _ V
    have hta1 : ∀ V, (Instr.typeAssert (.iface 77 (.agg #[.iface tv xv])) 49 75 true).run Tryz.prog V = .ok (.tuple #[.agg #[.slice none 0 0], .bool false]) V := fun V => ta_not ⟨_, Tryz.underlying75⟩ zBoth (by decide) _ V
    have hta2 : ∀ V, (Instr.typeAssert (.iface 77 (.agg #[.iface tv xv])) 49 77 true).run Tryz.prog V = .ok (.tuple #[.agg #[.iface tv xv], .bool true]) V := fun V => ta_yes ⟨_, Tryz.underlying77⟩ _ V
    go_enter Tryz.func17, Tryz.ntmps17
    go_wp2_with fail
    refine HW.out.mono ?_
    rintro e w3 ⟨rfl, hb3⟩
    have HB3 := Lib.hid (HB1.out.trans (hb3.mono HB1.out.size))
    clear hb3
    go_wp2_with fail
    go_ret
    exact ⟨rfl, HB3.out⟩
set_option maxHeartbeats 4000000 in
set_option maxRecDepth 100000 in
theorem rownode_of (k : Nat) (hk : k < 2) (l : List Nd) (hL : ListOk k l) (B : Nat) (A : Option Addr) (m c : Nat) (xs : List Value) (w : World) (hr : RowV w B A m c xs) (hlm : l.length = m) (hnd : ∀ (i : Nat) n v, l[i]? = some n → xs[i]? = some v → NdAt w B n v) (ht : TabAt w) :
    Calls Tryz.prog 17 #[.iface (rowT k) (.agg #[.slice A m c])] w fun e w' => e = .returned (.string (ownB (.row k l) 0)) ∧ Below w.heap.size w w' := by
  have HE : Hid (ownB (.row k l) 0 = ⟨(ownL l k).toArray⟩) := Lib.hid (by unfold ownB; rw [ownN, if_neg (by omega)])
  rw [HE.out]
  have hb1 : Below w.heap.size w (w.alloc (.cells #[.slice A m c] (rowT k))) := (Below.refl _ _).alloc (Nat.le_refl _) _
  have HLI := Lib.hid (hL B A m c xs _ (hr.keep hb1.size (fun i hi _ => hb1.block i hi)) hlm (fun i n v hn hv => (hnd i n v hn hv).under hb1) (ht.keep hb1))
  have HB1 := Lib.hid hb1
  clear hr hnd ht hL hb1
  rcases (show k = 0 ∨ k = 1 by omega) with rfl | rfl
  · have hta0 : ∀ V, (Instr.typeAssert (.iface 73 (.agg #[.slice A m c])) 49 73 true).run Tryz.prog V = .ok (.tuple #[.agg #[.slice A m c], .bool true]) V := fun V => ta_yes ⟨_, Tryz.underlying73⟩ _ V
    rw [show rowT 0 = 73 from rfl] at *
    rw [show sepB 0 = ⟨#[32, 111, 114, 32]⟩ from rfl] at HLI
    go_enter Tryz.func17, Tryz.ntmps17
    go_wp2_with fail
    refine HLI.out.mono ?_
    rintro e w3 ⟨rfl, hb3⟩
    have HB3 := Lib.hid (HB1.out.trans (hb3.mono HB1.out.size))
    clear hb3
    go_wp2_with fail
    go_ret
    exact ⟨rfl, HB3.out⟩
  · have hta0 : ∀ V, (Instr.typeAssert (.iface 75 (.agg #[.slice A m c])) 49 73 true).run Tryz.prog V = .ok (.tuple #[.agg #[.slice none 0 0], .bool false]) V := fun V => ta_not ⟨_, Tryz.underlying73⟩ zEither (by decide) _ V
    have hta1 : ∀ V, (Instr.typeAssert (.iface 75 (.agg #[.slice A m c])) 49 75 true).run Tryz.prog V = .ok (.tuple #[.agg #[.slice A m c], .bool true]) V := fun V => ta_yes ⟨_, Tryz.underlying75⟩ _ V
    rw [show rowT 1 = 75 from rfl] at *
    rw [show sepB 1 = ⟨#[32, 97, 110, 100, 32]⟩ from rfl] at HLI
    go_enter Tryz.func17, Tryz.ntmps17
    go_wp2_with fail
    refine HLI.out.mono ?_
    rintro e w3 ⟨rfl, hb3⟩
    have HB3 := Lib.hid (HB1.out.trans (hb3.mono HB1.out.size))
    clear hb3
    go_wp2_with fail
    go_ret
    exact ⟨rfl, HB3.out⟩
theorem own0_le {n : Nd} (k : Nat) : (ownN n 0).length ≤ (ownN n k).length := by
  cases n with
  | atom a => rw [ownN, ownN]; omega
  | no n => rw [ownN, ownN]; omega
  | row k' l => rw [ownN, ownN, if_neg (by omega : ¬ k' + 1 < 0)]; split <;> simp <;> omega
/-- A node's text. -/
theorem text_ok {n : Nd} (h : NF n) : (ownN n 0).length ≤ 1000000 → TextOk n := by
  induction h with
  | @atom a h =>
    intro hsz B v w hv ht
    obtain rfl : v = leafV a := by cases hv; rfl
    rw [leafB]
    rw [← leafT_size] at hsz
    cases a with
    | follows => exact plain_of _ w
    | done => exact plain_of _ w
    | tag x =>
      refine named_of tagW x w ?_
      simp only [leafT, ByteArray.size_append] at hsz
      omega
    | maker x =>
      refine named_of makerW x w ?_
      simp only [leafT, ByteArray.size_append] at hsz
      omega
    | num k less n =>
      have hs : (whatW k).size + (digW n).size ≤ 1000000 := by
        simp only [leafT, ByteArray.size_append] at hsz
        omega
      cases less
      · exact number_false (whatW k) n w hs h.2 ht
      · exact number_true (whatW k) n w hs h.2 ht
  | @no n h ih =>
    intro hsz B v w hv ht
    rw [ownN] at hsz
    simp only [List.length_append] at hsz
    have h0 := own0_le (n := n) 3
    cases hv with
    | no hv => exact notnode_of n h (by omega) (ih (by omega)) B _ w hv ht
  | @row k l hk h hf hl ih =>
    intro hsz B v w hv ht
    rw [ownN, if_neg (by omega)] at hsz
    have hz : ∀ n ∈ l, (ownN n 0).length ≤ 1000000 := fun n hn => by
      have h1 := (ownL_len (k := k) h).2 n hn
      have h2 := own0_le (n := n) (k + 1)
      omega
    cases hv with
    | row hr hlm hnd => exact rownode_of k hk l (list_of k hk l hl h hf hsz hz (fun n hn => ih n hn (hz n hn))) B _ _ _ _ w hr hlm hnd ht
def ruleT : Option Nd → ByteArray
  | none => ⟨#[]⟩
  | some n => ownB n 0
set_option maxHeartbeats 4000000 in
set_option maxRecDepth 100000 in
theorem Text_any (r : Option Nd) (B : Nat) (v : Value) (w : World) (hv : RuleV w B (some r) v) (hsz : (ruleT r).size ≤ 1000000) (ht : TabAt w) :
    Calls Tryz.prog 10 #[v] w fun e w' => e = .returned (.string (ruleT r)) ∧ Below w.heap.size w w' := by
  cases r with
  | none =>
    obtain ⟨g, rfl, _, hb⟩ := hv
    have c0 : w.cell? ⟨g, 0, none⟩ = some .nilIface := hb.cell 0
    clear hb
    go_enter Tryz.func10, Tryz.ntmps10
    go_wp2_with fail
    go_ret
    exact ⟨rfl, Below.refl _ _⟩
  | some n =>
    obtain ⟨hn, g, u, rfl, _, hb, hu⟩ := hv
    have c0 : w.cell? ⟨g, 0, none⟩ = some u := hb.cell 0
    have HT := Lib.hid (text_ok hn (by rw [← ownB_size]; exact hsz) B u w hu ht)
    have hvf : ∃ t x, u = .iface t x := by
      rcases nd_form hu with ⟨a, rfl, rfl⟩ | ⟨m, u, rfl, rfl, hu⟩ | ⟨k, l, A, m, c, xs, rfl, rfl, hr, hl, h⟩
      · cases a <;> exact ⟨_, _, rfl⟩
      · exact ⟨_, _, rfl⟩
      · exact ⟨_, _, rfl⟩
    obtain ⟨ob, hob⟩ : ∃ ob, ownB n 0 = ob := ⟨_, rfl⟩
    rw [show ruleT (some n) = ownB n 0 from rfl, hob]
    rw [hob] at HT
    clear hb hu hsz ht hn hob
    obtain ⟨t, x, rfl⟩ := hvf
    go_enter Tryz.func10, Tryz.ntmps10
    go_wp2_with fail
    refine HT.out.mono ?_
    rintro e w3 ⟨rfl, hb3⟩
    go_wp2_with fail
    go_ret
    exact ⟨rfl, hb3⟩
end Go.Proofs.YtpgbgeofhcpocaaGreatDoor
