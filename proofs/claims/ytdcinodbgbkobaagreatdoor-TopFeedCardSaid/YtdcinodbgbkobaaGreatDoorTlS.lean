/- tale.settings. -/
import Derived.Test.YtdcinodbgbkobaaGreatDoorTlP
import Derived.Test.YtdcinodbgbkobaaGreatDoorGa
namespace Go.Proofs.YtdcinodbgbkobaaGreatDoor
open Go.Shelf Go.RowKit Go.Maps
set_option linter.unusedVariables false

/-- The first bytes. -/
def b8A (y : Nat → Nat) : Array Value := #[.int .i64 (y 0 : Nat), .int .i64 (y 1 : Nat), .int .i64 (y 2 : Nat), .int .i64 (y 3 : Nat), .int .i64 (y 4 : Nat), .int .i64 (y 5 : Nat), .int .i64 (y 6 : Nat), .int .i64 (y 7 : Nat)]
def wgt (k j : Nat) : Value := .int .i64 (if j < k then 100 else 0)
/-- Settings, with so many weights. -/
def tsArr (y : Nat → Nat) (k : Nat) : Array Value := #[.int .i64 (1 + 10 * (y 0 : Int)), .int .i64 (1 + ((y 1 % 20 : Nat) : Int)), .int .i64 (1 + ((y 2 % 50 : Nat) : Int)), .int .i64 ((1 + ((y 1 % 20 : Nat) : Int)) * (1 + ((y 3 % 4 : Nat) : Int))), .int .i64 ((y 4 % 3 : Nat) : Int), .int .i64 ((y 5 % 3 : Nat) : Int), wgt k 0, wgt k 1, wgt k 2, wgt k 3, wgt k 4, wgt k 5, .int .i64 4, .int .i64 2, .int .i64 3, .int .i64 1073741824, .int .i64 0, .int .i64 5, .int .i64 (y 6 % 4 : Nat), .string ⟨#[115, 116, 111, 99, 107, 62, 48]⟩, .string ⟨#[111, 119, 110]⟩, .int .u64 (y 7 : Nat)]
theorem tsArr_size (y : Nat → Nat) (k : Nat) : (tsArr y k).size = 22 := rfl
theorem tsArr_set (y : Nat → Nat) {k : Nat} (hk : k < 6) : (tsArr y k).setIfInBounds (6 + k) (.int .i64 100) = tsArr y (k + 1) := by
  have : k = 0 ∨ k = 1 ∨ k = 2 ∨ k = 3 ∨ k = 4 ∨ k = 5 := by omega
  rcases this with rfl | rfl | rfl | rfl | rfl | rfl <;> rfl
theorem put_ts (y : Nat → Nat) (k : Nat) : putA #[.int .i64 0, .int .i64 0, .int .i64 0, .int .i64 0, .int .i64 0, .int .i64 0, .int .i64 0, .int .i64 0, .int .i64 0, .int .i64 0, .int .i64 0, .int .i64 0, .int .i64 0, .int .i64 0, .int .i64 0, .int .i64 0, .int .i64 0, .int .i64 0, .int .i64 0, .string ⟨#[]⟩, .string ⟨#[]⟩, .int .u64 0] 0 (tsArr y k).toList = tsArr y k := by
  simp only [tsArr, putA, List.setIfInBounds_toArray, List.set_cons_zero, List.set_cons_succ]
theorem tsg_info : (Tryz.prog.info? 32).map (·.size) = some 22 := by kernel_rfl
theorem load_ts {w : World} {tb : Nat} {y : Nat → Nat} {k : Nat} (h : Blk w tb 32 (tsArr y k)) : (loadVar 32 ⟨tb, 0, none⟩).run Tryz.prog w = .ok (.agg (tsArr y k)) w :=
  run_loadVar_row w tb _ _ (tsArr y k) (0, 0) _ h Tryz.underlying32 rfl tsg_info
theorem tmod_nat (a b : Nat) : Int.tmod (a : Int) (b : Int) = ((a % b : Nat) : Int) := by rw [Int.natCast_emod]; exact Int.tmod_eq_emod_of_nonneg (by omega)
theorem tdiv_nat (a b : Nat) : Int.tdiv (a : Int) (b : Int) = ((a / b : Nat) : Int) := by rw [Int.natCast_ediv]; exact Int.tdiv_eq_ediv_of_nonneg (by omega)
theorem results_c1 {fn : Func} {t : Tmp} {ty : TypeId} {v : Value} {rb : Nat} {tmps : Array Value} {w : World} (h : fn.results = #[.cell t ty]) (hp : tmps.getD t undef = .pointer (some ⟨rb, 0, none⟩)) (hl : (loadVar ty ⟨rb, 0, none⟩).run Tryz.prog w = .ok v w) :
    (results fn tmps).run Tryz.prog w = .ok v w := by
  have hp' : tmps[t]?.getD undef = .pointer (some ⟨rb, 0, none⟩) := by simpa using hp
  simp [results, h, hp', asAddr, hl]
/-- A struct, or an array, that is loaded whole. -/
theorem wpList_load_whole {P : Program} {ops : Array Oper} {rest : List Oper} {o : Oper} {a : Act} {w : World} {Q : Exit → Act → World → Prop} (hgd : o.guard = none) (ty : TypeId) (x : Operand) (ho : o.op = .load ty x) (p : Addr) (hx : a.eval x = .pointer (some p)) {v : Value}
    (hl : (loadVar ty p).run P w = .ok v w) (h : wpList P ops Q rest (a.put o.dst v) w) : wpList P ops Q (o :: rest) a w := by
  refine wpList_plain hgd fun K hK => ?_
  unfold Oper.wp execOp
  simp only [ho, hx, Instr.loadAt, Instr.sureAddr, Sem.run_bind, Sem.run_pure, Result.andThen_ok, hl]
  exact hK _ _ h

set_option maxHeartbeats 8000000 in
set_option maxRecDepth 100000 in
theorem tset_any (y : Nat → Nat) (hy : ∀ j, y j < 256) (w : World) : Calls Tryz.prog 40 #[.agg (b8A y)] w fun e w' => e = .returned (.agg (tsArr y 6)) ∧ Below w.heap.size w w' := by
  obtain ⟨w1, hw1⟩ : ∃ w1, w.alloc (.cells (b8A y) 104) = w1 := ⟨_, rfl⟩
  have HX1 : Hid (Blk w1 w.heap.size 104 (b8A y)) := Lib.hid (by rw [← hw1]; exact Blk.new _ _ _)
  have HB1 : Hid (Below w.heap.size w w1) := Lib.hid (by rw [← hw1]; exact (Below.refl _ _).alloc (Nat.le_refl _) _)
  have hz1 : w1.heap.size = w.heap.size + 1 := by rw [← hw1]; simp
  obtain ⟨Z, hZ⟩ : ∃ Z : Array Value, Z = #[.int .i64 0, .int .i64 0, .int .i64 0, .int .i64 0, .int .i64 0, .int .i64 0, .int .i64 0, .int .i64 0, .int .i64 0, .int .i64 0, .int .i64 0, .int .i64 0, .int .i64 0, .int .i64 0, .int .i64 0, .int .i64 0, .int .i64 0, .int .i64 0, .int .i64 0, .string ⟨#[]⟩, .string ⟨#[]⟩, .int .u64 0] := ⟨_, rfl⟩
  obtain ⟨w2, hw2⟩ : ∃ w2, w1.alloc (.cells Z 32) = w2 := ⟨_, rfl⟩
  have HB2 : Hid (Below w.heap.size w w2) := Lib.hid (by rw [← hw2]; exact HB1.out.alloc HB1.out.size _)
  have HX2 : Hid (Blk w2 w.heap.size 104 (b8A y)) := Lib.hid (by rw [← hw2]; exact HX1.out.alloc _)
  have HR2 : Hid (Blk w2 w1.heap.size 32 Z) := Lib.hid (by rw [← hw2]; exact Blk.new _ _ _)
  have c0 : w2.cell? ⟨w.heap.size, 0, none⟩ = some (.int .i64 (y 0 : Nat)) := HX2.out.cell 0
  have c1 : w2.cell? ⟨w.heap.size, 1, none⟩ = some (.int .i64 (y 1 : Nat)) := HX2.out.cell 1
  have c2 : w2.cell? ⟨w.heap.size, 2, none⟩ = some (.int .i64 (y 2 : Nat)) := HX2.out.cell 2
  have c3 : w2.cell? ⟨w.heap.size, 3, none⟩ = some (.int .i64 (y 3 : Nat)) := HX2.out.cell 3
  have c4 : w2.cell? ⟨w.heap.size, 4, none⟩ = some (.int .i64 (y 4 : Nat)) := HX2.out.cell 4
  have c5 : w2.cell? ⟨w.heap.size, 5, none⟩ = some (.int .i64 (y 5 : Nat)) := HX2.out.cell 5
  have c6 : w2.cell? ⟨w.heap.size, 6, none⟩ = some (.int .i64 (y 6 : Nat)) := HX2.out.cell 6
  have c7 : w2.cell? ⟨w.heap.size, 7, none⟩ = some (.int .i64 (y 7 : Nat)) := HX2.out.cell 7
  have b0 := hy 0
  have b7 := hy 7
  obtain ⟨r1, hr1⟩ : ∃ r, y 1 % 20 = r := ⟨_, rfl⟩
  obtain ⟨r2, hr2⟩ : ∃ r, y 2 % 50 = r := ⟨_, rfl⟩
  obtain ⟨r3, hr3⟩ : ∃ r, y 3 % 4 = r := ⟨_, rfl⟩
  obtain ⟨r4, hr4⟩ : ∃ r, y 4 % 3 = r := ⟨_, rfl⟩
  obtain ⟨r5, hr5⟩ : ∃ r, y 5 % 3 = r := ⟨_, rfl⟩
  obtain ⟨r6, hr6⟩ : ∃ r, y 6 % 4 = r := ⟨_, rfl⟩
  have k1 : r1 < 20 := by omega
  have k2 : r2 < 50 := by omega
  have k3 : r3 < 4 := by omega
  have k4 : r4 < 3 := by omega
  have k5 : r5 < 3 := by omega
  have k6 : r6 < 4 := by omega
  have m1 : Int.tmod (y 1 : Int) 20 = (r1 : Int) := by rw [← hr1]; exact tmod_nat _ 20
  have m2 : Int.tmod (y 2 : Int) 50 = (r2 : Int) := by rw [← hr2]; exact tmod_nat _ 50
  have m3 : Int.tmod (y 3 : Int) 4 = (r3 : Int) := by rw [← hr3]; exact tmod_nat _ 4
  have m4 : Int.tmod (y 4 : Int) 3 = (r4 : Int) := by rw [← hr4]; exact tmod_nat _ 3
  have m5 : Int.tmod (y 5 : Int) 3 = (r5 : Int) := by rw [← hr5]; exact tmod_nat _ 3
  have m6 : Int.tmod (y 6 : Int) 4 = (r6 : Int) := by rw [← hr6]; exact tmod_nat _ 4
  obtain ⟨q1, hq1⟩ : ∃ q, IntKind.i64.wrap (1 + (r1 : Int)) = q := ⟨_, rfl⟩
  obtain ⟨q2, hq2⟩ : ∃ q, IntKind.i64.wrap (1 + (r2 : Int)) = q := ⟨_, rfl⟩
  obtain ⟨q3, hq3⟩ : ∃ q, IntKind.i64.wrap (1 + (r3 : Int)) = q := ⟨_, rfl⟩
  obtain ⟨s0, hs0⟩ : ∃ q, IntKind.i64.wrap (10 * (y 0 : Int)) = q := ⟨_, rfl⟩
  obtain ⟨q0, hq0⟩ : ∃ q, IntKind.i64.wrap (1 + s0) = q := ⟨_, rfl⟩
  obtain ⟨pp, hpp⟩ : ∃ q, IntKind.i64.wrap (q1 * q3) = q := ⟨_, rfl⟩
  obtain ⟨q7, hq7⟩ : ∃ q, IntKind.u64.wrap (y 7 : Int) = q := ⟨_, rfl⟩
  have HTS : Hid (∀ k, tsArr y k = #[.int .i64 q0, .int .i64 q1, .int .i64 q2, .int .i64 pp, .int .i64 (r4 : Int), .int .i64 (r5 : Int), wgt k 0, wgt k 1, wgt k 2, wgt k 3, wgt k 4, wgt k 5, .int .i64 4, .int .i64 2, .int .i64 3, .int .i64 1073741824, .int .i64 0, .int .i64 5, .int .i64 (r6 : Int), .string ⟨#[115, 116, 111, 99, 107, 62, 48]⟩, .string ⟨#[111, 119, 110]⟩, .int .u64 q7]) := Lib.hid (by
    have e1 : q1 = 1 + (r1 : Int) := by rw [← hq1]; exact IntWalk.i64_in _ (by omega)
    have e2 : q2 = 1 + (r2 : Int) := by rw [← hq2]; exact IntWalk.i64_in _ (by omega)
    have e3 : q3 = 1 + (r3 : Int) := by rw [← hq3]; exact IntWalk.i64_in _ (by omega)
    have es : s0 = 10 * (y 0 : Int) := by rw [← hs0]; exact IntWalk.i64_in _ (by omega)
    have e0 : q0 = 1 + 10 * (y 0 : Int) := by rw [← hq0, es]; exact IntWalk.i64_in _ (by omega)
    have ep : pp = (1 + (r1 : Int)) * (1 + (r3 : Int)) := by
      rw [← hpp, e1, e3]
      have h1 : (1 + (r1 : Int)) * (1 + (r3 : Int)) ≤ 20 * 4 := Int.mul_le_mul (by omega) (by omega) (by omega) (by omega)
      have h2 : 0 ≤ (1 + (r1 : Int)) * (1 + (r3 : Int)) := Int.mul_nonneg (by omega) (by omega)
      obtain ⟨z, hz⟩ : ∃ z, (1 + (r1 : Int)) * (1 + (r3 : Int)) = z := ⟨_, rfl⟩
      rw [hz] at h1 h2 ⊢
      exact IntWalk.i64_in _ (by omega)
    have e7 : q7 = (y 7 : Int) := by rw [← hq7]; first | exact IntWalk.u64_in _ (by omega) | (simp [IntKind.wrap, IntKind.bits, IntKind.signed]; omega)
    intro k
    unfold tsArr
    rw [hr1, hr2, hr3, hr4, hr5, hr6, e0, e1, e2, ep, e7])
  clear b0 b7 k1 k2 k3 k4 k5 k6
  clear hr1 hr2 hr3 hr4 hr5 hr6
  have HY := Lib.hid hy
  unfold b8A
  unfold b8A at hw1
  subst hZ
  clear hy
  go_enter Tryz.func40, Tryz.ntmps40
  go_upto_region 1 with fail
  (try simp only [Exit.inBlock, Exit.then])
  try rw [hw1]
  try rw [hw2]
  clear hw1 hw2 HX2 HX1
  go_upto_region 3 with (first
    | (refine wpList_store_blk _ rfl 32 (.tmp 4) (.tmp 39) rfl 0 #[.int .i64 q0, .int .i64 q1, .int .i64 q2, .int .i64 pp, .int .i64 (r4 : Int), .int .i64 (r5 : Int), .int .i64 0, .int .i64 0, .int .i64 0, .int .i64 0, .int .i64 0, .int .i64 0, .int .i64 4, .int .i64 2, .int .i64 3, .int .i64 1073741824, .int .i64 0, .int .i64 5, .int .i64 (r6 : Int), .string ⟨#[115, 116, 111, 99, 107, 62, 48]⟩, .string ⟨#[111, 119, 110]⟩, .int .u64 q7] rfl rfl (Blk.new _ _ _) (by show 0 + 22 ≤ 22; omega) tsg_info (by simp [Value.oneCell']) ?_; intro w4 hb4 hk4 hs4)
    | fail)
  (try simp only [Exit.inBlock, Exit.then])
  simp only [putA, List.setIfInBounds_toArray, List.set_cons_zero, List.set_cons_succ] at hb4
  obtain ⟨sb, hsb⟩ : ∃ sb, w2.heap.size = sb := ⟨_, rfl⟩
  have HG4 : Hid (w.heap.size ≤ sb) := Lib.hid (by rw [← hsb]; exact HB2.out.size)
  have HB4 : Hid (Below w.heap.size w w4) := Lib.hid ((HB2.out.alloc HB2.out.size _).trans (hk4.toBelow (fun i hi => by rw [hi]; exact HB2.out.size) (by have := HB2.out.size; simp; omega)))
  have HR4 : Hid (Blk w4 w1.heap.size 32 #[.int .i64 0, .int .i64 0, .int .i64 0, .int .i64 0, .int .i64 0, .int .i64 0, .int .i64 0, .int .i64 0, .int .i64 0, .int .i64 0, .int .i64 0, .int .i64 0, .int .i64 0, .int .i64 0, .int .i64 0, .int .i64 0, .int .i64 0, .int .i64 0, .int .i64 0, .string ⟨#[]⟩, .string ⟨#[]⟩, .int .u64 0]) := Lib.hid ((HR2.out.alloc _).kept hk4 (by have := HR2.out.lt; omega))
  have HS4 : Hid (∃ k : Nat, k = 0 ∧ Blk w4 sb 32 (tsArr y k)) := Lib.hid ⟨0, rfl, by
    rw [HTS.out 0, ← hsb]
    exact hb4⟩
  have HZ4 : Hid (w1.heap.size < sb) := Lib.hid (by have := HR2.out.lt; omega)
  clear hb4 hk4 hs4 HB2 HR2 c0 c1 c2 c3 c4 c5 c6 c7 m1 m2 m3 m4 m5 m6 hq0 hq1 hq2 hq3 hs0 hpp hq7
  try rw [hsb]
  clear hsb
  try rw [← hz1]
  clear hz1
  go_wp2_with fail
  go_loopw [40] (fun i wr => ∃ k : Nat, k ≤ 6 ∧ i = .int .i64 k ∧ Hid (Blk wr sb 32 (tsArr y k)) ∧ Hid (Blk wr w1.heap.size 32 #[.int .i64 0, .int .i64 0, .int .i64 0, .int .i64 0, .int .i64 0, .int .i64 0, .int .i64 0, .int .i64 0, .int .i64 0, .int .i64 0, .int .i64 0, .int .i64 0, .int .i64 0, .int .i64 0, .int .i64 0, .int .i64 0, .int .i64 0, .int .i64 0, .int .i64 0, .string ⟨#[]⟩, .string ⟨#[]⟩, .int .u64 0]) ∧ Hid (Below w.heap.size w wr)) (fun i _ => 6 - (intOf i).toNat)
  case atStart =>
    obtain ⟨k, rfl, hs⟩ := HS4.out
    exact ⟨0, by omega, rfl, Lib.hid hs, HR4, HB4⟩
  case round =>
    obtain ⟨k, hk, rfl, hs, hr, hb⟩ := hrel
    by_cases hlt : k < 6
    · have hk8 : (k : Int) < 6 := by omega
      have hk9 : (0 : Int) ≤ (k : Int) := by omega
      have f0 := hs.out.frozen (6 + k)
      obtain ⟨u, hu⟩ : ∃ u, wr.cell? ⟨sb, 6 + k, none⟩ = some u := by
        rw [hs.out.cell (6 + k)]
        exact ⟨_, Array.getElem?_eq_getElem (by rw [tsArr_size]; omega)⟩
      have HSN : Hid (Blk (wr.setCell ⟨sb, 6 + k, none⟩ (.int .i64 100)) sb 32 (tsArr y (k + 1))) := Lib.hid (by
        have h := hs.out.set_ (6 + k) (.int .i64 100)
        rwa [tsArr_set y hlt] at h)
      have HKN : Hid (Kept (fun q => q = sb) wr (wr.setCell ⟨sb, 6 + k, none⟩ (.int .i64 100))) := Lib.hid ((Kept.refl (fun q => q = sb) wr).setCell (p := ⟨sb, 6 + k, none⟩) (Or.inl rfl) _)
      go_wp2_with fail
      go_roundw
      case rel => exact ⟨k + 1, by omega, by go_num, HSN, Lib.hid (hr.out.kept HKN.out (by have := HZ4.out; omega)), Lib.hid (hb.out.trans (HKN.out.toBelow (fun i hi => by rw [hi]; exact HG4.out) hb.out.size))⟩
      case measure => simp [intOf]; omega
    · obtain rfl : k = 6 := by omega
      have hl := load_ts hs.out
      go_wp2_with (first
        | (refine wpList_load_whole rfl 32 (.tmp 4) rfl _ rfl hl ?_)
        | (refine wpList_store_blk _ rfl 32 (.tmp 2) (.tmp 47) rfl 0 (tsArr y 6) rfl rfl hr.out (by show 0 + 22 ≤ 22; omega) tsg_info (by simp [tsArr, wgt, Value.oneCell']) ?_; intro w9 hb9 hk9 hs9)
        | fail)
      rw [put_ts] at hb9
      have HX9 : Hid (Blk w9 w1.heap.size 32 (tsArr y 6)) := Lib.hid hb9
      refine bodyPost_ret (results_c1 (rb := w1.heap.size) rfl rfl (load_ts HX9.out)) rfl ?_
      exact ⟨rfl, hb.out.trans (hk9.toBelow (fun i hi => by rw [hi]; exact HB1.out.size) hb.out.size)⟩
end Go.Proofs.YtdcinodbgbkobaaGreatDoor
