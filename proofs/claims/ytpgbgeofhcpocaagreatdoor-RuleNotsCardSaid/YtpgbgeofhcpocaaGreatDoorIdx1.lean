/- strings.IndexRune of a rune that is no ASCII, among ASCII signs: none. -/
import Derived.Test.YtpgbgeofhcpocaaGreatDoorIdx
import Derived.Deep.DeepCutAuto
namespace Go.Proofs.YtpgbgeofhcpocaaGreatDoor
open Go.RowKit Go.Maps Go.Shelf
set_option linter.unusedVariables false

theorem ext_at' {s : ByteArray} {f : Nat} (j : Nat) : (s.extract f s.size).data.toList[j]? = s.data.toList[f + j]? := by
  simp [List.getElem?_take]
  intro h
  omega
set_option maxHeartbeats 4000000 in
set_option maxRecDepth 1000000 in
theorem idxRune_high (chars : ByteArray) (r : Nat) (w : World) (hr : 128 ≤ r) (hv : Utf8.valid (r : Int) = true) (hc : ∀ (j : Nat) b, chars.data.toList[j]? = some b → b.toNat < 128) (hs : chars.size ≤ 100000) :
    Calls Tryz.prog 30 #[.string chars, .int .i32 r] w fun e w' => e = .returned (.int .i64 (-1)) ∧ Below w.heap.size w w' := by
  have HC := Lib.hid hc
  have HV := Lib.hid hv
  have hr2 : r ≤ 1114111 := by
    simp only [Utf8.valid, Bool.or_eq_true, Bool.and_eq_true, decide_eq_true_eq] at hv
    omega
  clear hc hv
  by_cases he : r = 65533
  · subst he
    go_enter Tryz.func30, Tryz.ntmps30
    go_wp2
    go_loopw [5, 6] (fun _ _ wr => ∃ i : Nat, i ≤ chars.size ∧ wr = w.iter chars i) (fun _ _ wr => chars.size - wr.iterPos w.heap.size)
    case atStart => exact ⟨0, Nat.zero_le _, rfl⟩
    case round =>
      obtain ⟨i, hi, rfl⟩ := hrel
      by_cases hlt : i < chars.size
      · have hx := HC.out i (chars[i]'hlt) (Lib.data_getElem? chars i hlt)
        have hnx := fun ty => run_next_ascii (P := Tryz.prog) w chars i ty hlt hx
        have hne : (((chars[i]'hlt).toNat : Int) == 65533) = false := by
          rw [beq_eq_false_iff_ne]
          omega
        go_wp2
        go_roundw
        case rel => exact ⟨i + 1, by omega, rfl⟩
        case measure => simp; omega
      · have hnx := run_next_end (P := Tryz.prog) w chars i
        go_wp2
        go_ret
        exact ⟨rfl, (Below.refl _ _).alloc (Nat.le_refl _) _⟩
  · obtain ⟨f1, f2, f3⟩ := encode_facts (r : Int) HV.out (by omega)
    have hne : (((r : Nat) : Int) == 65533) = false := by
      rw [beq_eq_false_iff_ne]
      omega
    obtain ⟨t, ht⟩ : ∃ t, Utf8.encode (r : Int) = t := ⟨_, rfl⟩
    rw [ht] at f1 f2 f3
    have hvr := vr_any r w HV.out
    have hcv : ∀ V, (convert 21 9 (.int .i32 r)).run Tryz.prog V = .ok (.string t) V := fun V => by
      rw [run_convert_int_string V _ _ _ _ (by kernel_rfl) (by kernel_rfl), ht]
    obtain ⟨m, hm⟩ : ∃ m, t.size = m + 1 := ⟨t.size - 1, by omega⟩
    have hb : m < t.size := by omega
    have hb8 : (m : Int) < (t.size : Int) := by omega
    have hmi : (t.size : Int) - 1 = (m : Int) := by omega
    have hbh : 128 ≤ (t[m]'hb).toNat := by
      have e : t.size - 1 = m := by omega
      have h4 := f3 (by omega)
      simp only [e] at h4
      exact h4
    have HBH := Lib.hid hbh
    obtain ⟨z, hz⟩ : ∃ z, t[m]'hb = z := ⟨_, rfl⟩
    rw [hz] at HBH
    have hm3 : m ≤ 3 := by omega
    have hwm : wrap64 (m : Int) = (m : Int) := by unfold wrap64; omega
    have hwi : IntKind.i64.wrap (m : Int) = (m : Int) := by rw [IntKind.wrap_i64]; omega
    have hm0 : (0 : Int) ≤ (m : Int) := by omega
    clear f1 f2 f3 hbh
    go_enter Tryz.func30, Tryz.ntmps30
    go_wp2_with fail
    refine hvr.mono ?_
    rintro e _ ⟨rfl, rfl⟩
    go_wp2_with fail
    go_step3
    go_wp2_with fail
    go_loopw [9, 10] (fun i f wr => i = .int .i64 m ∧ f = .int .i64 0 ∧ wr = w) (fun _ _ _ => 0)
    case atStart => exact ⟨rfl, rfl, rfl⟩
    case round =>
      obtain ⟨rfl, rfl, rfl⟩ := hrel
      by_cases hlt : m < chars.size
      · have hx := HC.out m (chars[m]'hlt) (Lib.data_getElem? chars m hlt)
        have hlt8 : (m : Int) < (chars.size : Int) := by omega
        have q1 : (((chars[m]'hlt).toNat : Int) == (z.toNat : Int)) = false := by
          rw [beq_eq_false_iff_ne]
          have := HBH.out
          omega
        have hkw : IntKind.i64.wrap ((m : Int) + 1) = (m : Int) + 1 := by rw [IntKind.wrap_i64]; omega
        have hkt : ((m : Int) + 1).toNat = m + 1 := by omega
        have hkk : (m : Int) + 1 ≤ (chars.size : Int) := by omega
        have hib : Lib.indexByte (chars.extract (m + 1) chars.size).data.toList z = -1 := idxb_none z _ (fun x hx e => by
          obtain ⟨j, hj⟩ := List.mem_iff_getElem?.1 hx
          rw [ext_at'] at hj
          have := HC.out _ x hj
          have := HBH.out
          rw [← e] at this
          omega)
        have HIB := Lib.hid hib
        clear hib
        go_wp2_with fail
        go_step3
        go_wp2_with fail
        refine wp_plan (fun _ => True) [(0, false), (1, false), (2, false), (3, false), (4, false), (5, false), (6, false)] (by kernel_rfl) (by kernel_rfl) trivial ?_
        simp only [planL, List.getElem?_cons_zero, List.getElem?_cons_succ]
        repeat (first | (refine plan_on _ (by rfl) (fun W hW => by (go_simp; try (first | with_reducible rfl | rw [if_neg (by omega)] | rw [if_pos (by omega)]))) ?_; simp only [Act.put, List.setIfInBounds_toArray, List.set_cons_zero, List.set_cons_succ]) | (refine plan_off (by rfl) ?_; simp only [Act.put, List.setIfInBounds_toArray, List.set_cons_zero, List.set_cons_succ]))
        refine plan_done ?_
        go_wp2_with fail
        refine wp_plan (fun _ => True) [(0, false), (1, false), (2, false), (3, false), (4, false), (5, false), (6, false), (7, true), (8, false)] (by kernel_rfl) (by kernel_rfl) trivial ?_
        simp only [planL, List.getElem?_cons_zero, List.getElem?_cons_succ]
        repeat (first | (refine plan_on _ (by rfl) (fun W hW => by (go_simp; try (first | with_reducible rfl | rw [if_neg (by omega)] | rw [if_pos (by omega)]))) ?_; simp only [Act.put, List.setIfInBounds_toArray, List.set_cons_zero, List.set_cons_succ]) | (refine plan_off (by rfl) ?_; simp only [Act.put, List.setIfInBounds_toArray, List.set_cons_zero, List.set_cons_succ]))
        refine plan_turn ?_
        go_wp2_with fail
        refine (Tryz.strings_IndexByte (chars.extract (m + 1) chars.size) (z.toNat : Int) _).mono ?_
        rintro e _ ⟨rfl, rfl⟩
        have hz8 : ((z.toNat : Int).toNat).toUInt8 = z := by simp
        rw [hz8, HIB.out]
        go_wp2_with fail
        refine ⟨trivial, ?_⟩
        repeat (first | (refine plan_on _ (by rfl) (fun W hW => by (go_simp; try with_reducible rfl)) ?_; simp only [Act.put, List.setIfInBounds_toArray, List.set_cons_zero, List.set_cons_succ]) | (refine plan_off (by rfl) ?_; simp only [Act.put, List.setIfInBounds_toArray, List.set_cons_zero, List.set_cons_succ]))
        refine plan_done ?_
        go_wp2_with fail
        try rw [Exit.noGoto_ret]
        refine (show bodyPost Tryz.prog Tryz.f30 (fun e w' => e = .returned (.int .i64 (-1)) ∧ Below wr.heap.size wr w') Exit.ret _ _ from ?_)
        go_ret
        exact ⟨rfl, Go.Proofs.YtpgbgeofhcpocaaGreatDoor.below_drew (Go.Proofs.YtpgbgeofhcpocaaGreatDoor.below_drew (Below.refl _ _))⟩
      · have hlt8 : ¬ (m : Int) < (chars.size : Int) := by omega
        go_wp2_with fail
        try rw [Exit.noGoto_ret]
        go_ret
        exact ⟨rfl, Below.refl _ _⟩
end Go.Proofs.YtpgbgeofhcpocaaGreatDoor
