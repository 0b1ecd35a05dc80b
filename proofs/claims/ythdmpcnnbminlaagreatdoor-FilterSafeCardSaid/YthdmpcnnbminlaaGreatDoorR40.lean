/- A part of the joined base. -/
import Derived.Test.YthdmpcnnbminlaaGreatDoorR01
import Derived.Test.YthdmpcnnbminlaaGreatDoorR39
set_option linter.unusedVariables false
set_option maxHeartbeats 8000000
set_option maxRecDepth 100000
namespace Go.Proofs.YthdmpcnnbminlaaGreatDoor
open Go.Shelf Go.RowKit Go.Maps
open Ru (Fz fzA fzX Nd holdsR RuleV ruleT Says errOf ErrAt TabAt)
def whysL : List ByteArray := [⟨#[110, 111, 110, 101]⟩, ⟨#[117, 110, 108, 105, 115, 116, 101, 100]⟩, ⟨#[115, 116, 111, 99, 107]⟩, ⟨#[104, 105, 100, 100, 101, 110]⟩, ⟨#[100, 111, 110, 101]⟩, ⟨#[102, 101, 119]⟩, ⟨#[114, 117, 108, 101, 100]⟩]
def whyN (y : Int) : ByteArray := if 0 ≤ y ∧ y < 7 then whysL.getD y.toNat ⟨#[]⟩ else ⟨#[]⟩
def FnAt (w : World) : Prop := 0 < w.heap.size ∧ ∀ (j : Nat) x, whysL[j]? = some x → w.cell? ⟨0, j, none⟩ = some (.string x)
theorem FnAt.keep {w w' : World} (h : FnAt w) (hb : Below w.heap.size w w') : FnAt w' :=
 ⟨Nat.lt_of_lt_of_le h.1 hb.size, fun j x hx => (hb.cell (p := ⟨_, j, none⟩) h.1).trans (h.2 j x hx)⟩
structure LbAt (w : World) : Prop where
 g : GlobAt w
 k : KnAt w
 t : TabAt w
 e : ErrAt w
theorem LbAt.keep {w w' : World} (h : LbAt w) (hb : Below w.heap.size w w') : LbAt w' := ⟨h.g.keep hb (Nat.le_refl _), h.k.keep hb (Nat.le_refl _), h.t.keep hb, h.e.keep hb⟩
theorem first_any (b0 b1 b2 b3 b4 b5 : Bool) (w : World) :
  Calls Tryz.prog 69 #[.agg #[.bool b0, .bool b1, .bool b2, .bool b3, .bool b4, .bool b5]] w fun e w' => e = .returned (.int .i64 (fstW [b0, b1, b2, b3, b4, b5] 0 : Nat)) ∧ Below w.heap.size w w' := by
 obtain ⟨w1, hw1⟩ : ∃ w1, w.alloc (.cells #[.bool b0, .bool b1, .bool b2, .bool b3, .bool b4, .bool b5] 116) = w1 := ⟨_, rfl⟩
 have be1 : Blk w1 w.heap.size 116 #[.bool b0, .bool b1, .bool b2, .bool b3, .bool b4, .bool b5] := by rw [← hw1]; exact Blk.new _ _ _
 have HB1 : Hid (Below w.heap.size w w1) := zh (by rw [← hw1]; exact (Below.refl _ _).alloc (Nat.le_refl _) _)
 have c0 : w1.cell? ⟨w.heap.size, 0, none⟩ = some (.bool b0) := be1.cell 0
 have c1 : w1.cell? ⟨w.heap.size, 1, none⟩ = some (.bool b1) := be1.cell 1
 have c2 : w1.cell? ⟨w.heap.size, 2, none⟩ = some (.bool b2) := be1.cell 2
 have c3 : w1.cell? ⟨w.heap.size, 3, none⟩ = some (.bool b3) := be1.cell 3
 have c4 : w1.cell? ⟨w.heap.size, 4, none⟩ = some (.bool b4) := be1.cell 4
 have c5 : w1.cell? ⟨w.heap.size, 5, none⟩ = some (.bool b5) := be1.cell 5
 obtain ⟨Y, hY⟩ : ∃ Y, fstW [b0, b1, b2, b3, b4, b5] 0 = Y := ⟨_, rfl⟩
 rw [hY]
 have HY : Hid (Y = fstW [b0, b1, b2, b3, b4, b5] 0) := zh hY.symm
 clear be1 hY
 go_enter Tryz.func69, Tryz.ntmps69
 go_wp2_with fail
 go_loopw [3] (fun i wr => ∃ k : Int, (0 ≤ k ∧ k ≤ 6) ∧ i = .int .i64 k ∧ Hid (Y = fstW ([b0, b1, b2, b3, b4, b5].drop k.toNat) k.toNat) ∧ w1 = wr) (fun i _ => 6 - (intOf i).toNat)
 case atStart => exact ⟨0, by omega, rfl, HY, rfl⟩
 case round =>
  obtain ⟨k, hk, rfl, hy, rfl⟩ := hrel
  by_cases hk0 : k = 0
  ·subst hk0
   have hy' := hy.out
   simp only [List.drop_zero, fstW, Int.toNat] at hy'
   cases b0 with
   | true =>
    have HYY := zh hy'
    clear hy hy'
    go_wp2_with fail
    go_ret
    exact ⟨by rw [HYY.out]; rfl, HB1.out⟩
   | false =>
    have HYY := zh hy'
    clear hy hy'
    go_wp2_with fail
    go_roundw
    case rel => exact ⟨1, by omega, rfl, zh (by rw [HYY.out]; rfl), trivial⟩
    case measure => decide
  by_cases hk1 : k = 1
  ·subst hk1
   have hy' := hy.out
   simp only [List.drop_succ_cons, List.drop_zero, fstW, Int.toNat] at hy'
   cases b1 with
   | true =>
    have HYY := zh hy'
    clear hy hy'
    go_wp2_with fail
    go_ret
    exact ⟨by rw [HYY.out]; rfl, HB1.out⟩
   | false =>
    have HYY := zh hy'
    clear hy hy'
    go_wp2_with fail
    go_roundw
    case rel => exact ⟨2, by omega, rfl, zh (by rw [HYY.out]; rfl), trivial⟩
    case measure => decide
  by_cases hk2 : k = 2
  ·subst hk2
   have hy' := hy.out
   simp only [List.drop_succ_cons, List.drop_zero, fstW, Int.toNat] at hy'
   cases b2 with
   | true =>
    have HYY := zh hy'
    clear hy hy'
    go_wp2_with fail
    go_ret
    exact ⟨by rw [HYY.out]; rfl, HB1.out⟩
   | false =>
    have HYY := zh hy'
    clear hy hy'
    go_wp2_with fail
    go_roundw
    case rel => exact ⟨3, by omega, rfl, zh (by rw [HYY.out]; rfl), trivial⟩
    case measure => decide
  by_cases hk3 : k = 3
  ·subst hk3
   have hy' := hy.out
   simp only [List.drop_succ_cons, List.drop_zero, fstW, Int.toNat] at hy'
   cases b3 with
   | true =>
    have HYY := zh hy'
    clear hy hy'
    go_wp2_with fail
    go_ret
    exact ⟨by rw [HYY.out]; rfl, HB1.out⟩
   | false =>
    have HYY := zh hy'
    clear hy hy'
    go_wp2_with fail
    go_roundw
    case rel => exact ⟨4, by omega, rfl, zh (by rw [HYY.out]; rfl), trivial⟩
    case measure => decide
  by_cases hk4 : k = 4
  ·subst hk4
   have hy' := hy.out
   simp only [List.drop_succ_cons, List.drop_zero, fstW, Int.toNat] at hy'
   cases b4 with
   | true =>
    have HYY := zh hy'
    clear hy hy'
    go_wp2_with fail
    go_ret
    exact ⟨by rw [HYY.out]; rfl, HB1.out⟩
   | false =>
    have HYY := zh hy'
    clear hy hy'
    go_wp2_with fail
    go_roundw
    case rel => exact ⟨5, by omega, rfl, zh (by rw [HYY.out]; rfl), trivial⟩
    case measure => decide
  by_cases hk5 : k = 5
  ·subst hk5
   have hy' := hy.out
   simp only [List.drop_succ_cons, List.drop_zero, fstW, Int.toNat] at hy'
   cases b5 with
   | true =>
    have HYY := zh hy'
    clear hy hy'
    go_wp2_with fail
    go_ret
    exact ⟨by rw [HYY.out]; rfl, HB1.out⟩
   | false =>
    have HYY := zh hy'
    clear hy hy'
    go_wp2_with fail
    go_roundw
    case rel => exact ⟨6, by omega, rfl, zh (by rw [HYY.out]; rfl), trivial⟩
    case measure => decide
  obtain rfl : k = 6 := by omega
  have hy' := hy.out
  go_wp2_with fail
  go_ret
  exact ⟨by rw [hy']; rfl, HB1.out⟩
theorem rin_any (w : World) (B : Nat) (A : Option Addr) (l : List ByteArray) (n c : Nat) (s : ByteArray) (hn : l.length = n) (hl : RowIn w B 1 A n (l.map .string)) (hb : n ≤ 1000000) :
  Calls Tryz.prog 35 #[.slice A n c, .string s] w fun e w' => e = .returned (.bool (memB s l)) ∧ w = w' := by
 have HN := zh hn
 have HL := zh hl
 clear hn hl
 go_enter Tryz.func35, Tryz.ntmps35
 go_wp2_with fail
 go_loopw [5] (fun i wr => ∃ k : Nat, k ≤ n ∧ i = .int .i64 k ∧ Hid (∀ j u, j < k → l[j]? = some u → s ≠ u) ∧ w = wr) (fun i _ => n - (intOf i).toNat)
 case atStart => exact ⟨0, Nat.zero_le _, rfl, zh (fun j u hj => by omega), rfl⟩
 case round =>
  obtain ⟨k, hk, rfl, hok, rfl⟩ := hrel
  by_cases hlt : k < n
  ·obtain ⟨t, ht⟩ : ∃ x, l[k]? = some x := ⟨l[k]'(by rw [HN.out]; exact hlt), List.getElem?_eq_getElem _⟩
   obtain ⟨g, o, rfl, _, hc⟩ := HL.out.at (by omega)
   have e0 : w.cell? ⟨g, o + k, none⟩ = some (Value.string t) := hc k _ (by simp [ht])
   have HTK := zh ht
   have hk8 : (k : Int) < (n : Int) := by omega
   have hk9 : (0 : Int) ≤ (k : Int) := by omega
   clear hc ht
   by_cases he : t = s
   ·have HE : Hid (memB s l = true) := zh ((memB_iff _ _).2 (by rw [← he]; exact List.mem_of_getElem? HTK.out))
    have q1 : (t.toList == s.toList) = true := (beq_list t s).2 he
    clear he
    go_wp2_with fail
    go_ret
    exact ⟨by rw [HE.out]; rfl, rfl⟩
   ·have HE := zh he
    have q1 : (t.toList == s.toList) = false := Bool.eq_false_iff.2 (fun e => he ((beq_list t s).1 e))
    clear he
    go_wp2_with fail
    go_roundw
    case rel =>
     refine ⟨k + 1, by omega, by go_num, zh (fun j u hj hu => ?_), by trivial⟩
     by_cases e : j = k
     ·subst e; rw [HTK.out] at hu; cases hu; exact fun h => HE.out h.symm
     ·exact hok.out j u (by omega) hu
    case measure => simp [intOf]; omega
  ·have HF : Hid (memB s l = false) := zh (by
    cases hm : memB s l
    ·rfl
    ·obtain ⟨j, hj⟩ := List.mem_iff_getElem?.1 ((memB_iff _ _).1 hm)
     have := (List.getElem?_eq_some_iff.1 hj).1
     rw [HN.out] at this
     exact absurd rfl (hok.out j s (by omega) hj))
   go_wp2_with fail
   go_ret
   exact ⟨by rw [HF.out]; rfl, rfl⟩
theorem fname_any (y : Int) (w : World) (h : FnAt w) : Calls Tryz.prog 24 #[.int .i64 y] w fun e w' => e = .returned (.string (whyN y)) ∧ Below w.heap.size w w' := by
 have n0 : w.cell? ⟨0, 0, none⟩ = some (.string ⟨#[110, 111, 110, 101]⟩) := h.2 0 _ rfl
 have n1 : w.cell? ⟨0, 1, none⟩ = some (.string ⟨#[117, 110, 108, 105, 115, 116, 101, 100]⟩) := h.2 1 _ rfl
 have n2 : w.cell? ⟨0, 2, none⟩ = some (.string ⟨#[115, 116, 111, 99, 107]⟩) := h.2 2 _ rfl
 have n3 : w.cell? ⟨0, 3, none⟩ = some (.string ⟨#[104, 105, 100, 100, 101, 110]⟩) := h.2 3 _ rfl
 have n4 : w.cell? ⟨0, 4, none⟩ = some (.string ⟨#[100, 111, 110, 101]⟩) := h.2 4 _ rfl
 have n5 : w.cell? ⟨0, 5, none⟩ = some (.string ⟨#[102, 101, 119]⟩) := h.2 5 _ rfl
 have n6 : w.cell? ⟨0, 6, none⟩ = some (.string ⟨#[114, 117, 108, 101, 100]⟩) := h.2 6 _ rfl
 clear h
 by_cases h0 : y < 0
 ·have HY : Hid (whyN y = ⟨#[]⟩) := zh (if_neg (by omega))
  go_enter Tryz.func24, Tryz.ntmps24
  go_wp2_with fail
  go_ret
  exact ⟨by rw [HY.out]; rfl, Below.refl _ _⟩
 have d0 : decide (y < 0) = false := decide_eq_false h0
 by_cases h7 : 7 ≤ y
 ·have HY : Hid (whyN y = ⟨#[]⟩) := zh (if_neg (by omega))
  go_enter Tryz.func24, Tryz.ntmps24
  go_wp2_with fail
  go_ret
  exact ⟨by rw [HY.out]; rfl, Below.refl _ _⟩
 have hy : y = 0 ∨ y = 1 ∨ y = 2 ∨ y = 3 ∨ y = 4 ∨ y = 5 ∨ y = 6 := by omega
 clear d0 h0 h7
 rcases hy with rfl | rfl | rfl | rfl | rfl | rfl | rfl
 all_goals
  go_enter Tryz.func24, Tryz.ntmps24
  go_wp2_with fail
  go_ret
  exact ⟨rfl, Below.refl _ _⟩
theorem rwname_any (y : Int) (w : World) : Calls Tryz.prog 25 #[.int .i64 y] w fun e w' => e = .returned (.string (whyN y)) ∧ Below w.heap.size w w' := by
 obtain ⟨w1, hw1⟩ : ∃ w1, w.alloc (.cells #[.string ⟨#[110, 111, 110, 101]⟩, .string ⟨#[117, 110, 108, 105, 115, 116, 101, 100]⟩, .string ⟨#[115, 116, 111, 99, 107]⟩, .string ⟨#[104, 105, 100, 100, 101, 110]⟩, .string ⟨#[100, 111, 110, 101]⟩, .string ⟨#[102, 101, 119]⟩, .string ⟨#[114, 117, 108, 101, 100]⟩] 9) = w1 := ⟨_, rfl⟩
 have be1 : Blk w1 w.heap.size 9 #[.string ⟨#[110, 111, 110, 101]⟩, .string ⟨#[117, 110, 108, 105, 115, 116, 101, 100]⟩, .string ⟨#[115, 116, 111, 99, 107]⟩, .string ⟨#[104, 105, 100, 100, 101, 110]⟩, .string ⟨#[100, 111, 110, 101]⟩, .string ⟨#[102, 101, 119]⟩, .string ⟨#[114, 117, 108, 101, 100]⟩] := by rw [← hw1]; exact Blk.new _ _ _
 have HB1 : Hid (Below w.heap.size w w1) := zh (by rw [← hw1]; exact (Below.refl _ _).alloc (Nat.le_refl _) _)
 have n0 : w1.cell? ⟨w.heap.size, 0, none⟩ = some (.string ⟨#[110, 111, 110, 101]⟩) := be1.cell 0
 have n1 : w1.cell? ⟨w.heap.size, 1, none⟩ = some (.string ⟨#[117, 110, 108, 105, 115, 116, 101, 100]⟩) := be1.cell 1
 have n2 : w1.cell? ⟨w.heap.size, 2, none⟩ = some (.string ⟨#[115, 116, 111, 99, 107]⟩) := be1.cell 2
 have n3 : w1.cell? ⟨w.heap.size, 3, none⟩ = some (.string ⟨#[104, 105, 100, 100, 101, 110]⟩) := be1.cell 3
 have n4 : w1.cell? ⟨w.heap.size, 4, none⟩ = some (.string ⟨#[100, 111, 110, 101]⟩) := be1.cell 4
 have n5 : w1.cell? ⟨w.heap.size, 5, none⟩ = some (.string ⟨#[102, 101, 119]⟩) := be1.cell 5
 have n6 : w1.cell? ⟨w.heap.size, 6, none⟩ = some (.string ⟨#[114, 117, 108, 101, 100]⟩) := be1.cell 6
 clear be1
 by_cases h0 : y < 0
 ·have HY : Hid (whyN y = ⟨#[]⟩) := zh (if_neg (by omega))
  go_enter Tryz.func25, Tryz.ntmps25
  go_wp2_with fail
  go_ret
  exact ⟨by rw [HY.out]; rfl, HB1.out⟩
 have d0 : decide (y < 0) = false := decide_eq_false h0
 by_cases h7 : 6 < y
 ·have HY : Hid (whyN y = ⟨#[]⟩) := zh (if_neg (by omega))
  go_enter Tryz.func25, Tryz.ntmps25
  go_wp2_with fail
  go_ret
  exact ⟨by rw [HY.out]; rfl, HB1.out⟩
 have hy : y = 0 ∨ y = 1 ∨ y = 2 ∨ y = 3 ∨ y = 4 ∨ y = 5 ∨ y = 6 := by omega
 clear d0 h0 h7
 rcases hy with rfl | rfl | rfl | rfl | rfl | rfl | rfl
 all_goals
  go_enter Tryz.func25, Tryz.ntmps25
  go_wp2_with fail
  go_ret
  exact ⟨rfl, HB1.out⟩
def RlIs (w : World) (B : Nat) : Option (Option Nd) → Option Addr → Prop
 | none, q => q = none
 | some r, q => q ≠ none ∧ RuleV w B (some r) (.pointer q) ∧ (ruleT r).size ≤ 4000
theorem RlIs.below {w w' : World} {B : Nat} {R : Option (Option Nd)} {q : Option Addr} (h : RlIs w B R q) (hb : Below w.heap.size w w') : RlIs w' B R q := by
 cases R with
 | none => exact h
 | some r => exact ⟨h.1, h.2.1.below hb, h.2.2⟩
theorem RlIs.asks {w : World} {B : Nat} {R : Option (Option Nd)} {q : Option Addr} (h : RlIs w B R q) (hg : GlobAt w) : RuleH w (.pointer q) (okP R) := by
 cases R with
 | none => cases h; exact RuleH.nil w
 | some r => exact fun W hb z hz => Ru.Holds_any z (by omega) r B _ W (h.2.1.below hb) (by have := h.2.2; omega) (hg.keep hb (Nat.le_refl _))
def ParsedR (w : World) (s : ByteArray) (x : Ending) (w' : World) : Prop := ∃ q b, x = .returned (.tuple #[.pointer q, .bool b]) ∧ (b = true → ∃ R, RlIs w' w.heap.size R q) ∧ Below w.heap.size w w'
theorem rulev_ptr {w : World} {B : Nat} {r : Option (Option Nd)} {v : Value} (h : RuleV w B r v) : ∃ q, v = .pointer q ∧ (q = none ↔ r = none) := by
 match r, h with
 | none, h => exact ⟨none, h, by simp⟩
 | some none, ⟨g, e, _⟩ => exact ⟨_, e, by simp⟩
 | some (some n), ⟨_, g, u, e, _⟩ => exact ⟨_, e, by simp⟩
theorem parsed_any (s : ByteArray) (w : World) (hs : s.size ≤ 281474976710656) (hg : LbAt w) : Calls Tryz.prog 21 #[.string s] w (ParsedR w s) := by
 by_cases h3 : (300 : Int) < (s.size : Int)
 ·go_enter Tryz.func21, Tryz.ntmps21
  go_wp2_with fail
  go_ret2
  exact ⟨none, false, rfl, fun h => (by cases h), Below.refl _ _⟩
 by_cases h0 : s = ⟨#[]⟩
 ·subst h0
  go_enter Tryz.func21, Tryz.ntmps21
  go_wp2_with fail
  go_ret2
  exact ⟨none, true, rfl, fun _ => ⟨none, rfl⟩, Below.refl _ _⟩
 have HP := zh (Ru.parse_any s w (by omega) (fun V hb => ⟨hg.e.keep hb, hg.t.keep hb⟩))
 have q0 : (s.toList == (⟨#[]⟩ : ByteArray).toList) = false := Bool.eq_false_iff.2 (fun e => h0 ((beq_list s ⟨#[]⟩).1 e))
 have q1 : (s.toList == []) = false := by rw [← q0, Lib.toList_data, Lib.toList_data]
 clear h0 hg
 go_enter Tryz.func21, Tryz.ntmps21
 go_wp2_with fail
 refine HP.out.mono ?_
 rintro e w1 ⟨r, at_, v, hsy, rfl, hv, hb⟩
 obtain ⟨q, rfl, hq⟩ := rulev_ptr hv
 have HB := zh hb
 cases r with
 | none =>
  have e11 : errOf (none : Option (Option Nd)) = 11 := rfl
  rw [e11]
  clear hv hb hq hsy HP e11
  go_wp2_with fail
  go_ret2
  exact ⟨q, false, rfl, fun h => (by cases h), HB.out⟩
 | some r =>
  have HV := zh (show RlIs w1 w.heap.size (some r) q from ⟨by rw [Ne, hq]; simp, hv, hsy.sz⟩)
  have hqn : q ≠ none := by rw [Ne, hq]; simp
  obtain ⟨⟨gq, oq, mq⟩, rfl⟩ := Option.ne_none_iff_exists'.1 hqn
  have e0 : errOf (some r) = 0 := rfl
  rw [e0]
  clear hv hb hq hsy HP e0 hqn
  go_wp2_with fail
  go_ret2
  exact ⟨_, true, rfl, fun _ => ⟨some r, HV.out⟩, HB.out⟩
end Go.Proofs.YthdmpcnnbminlaaGreatDoor
namespace Go.Proofs.YthdmpcnnbminlaaGreatDoor
open Go.Shelf Go.RowKit Go.Maps
open Ru (Fz fzA fzX Nd holdsR RuleV ruleT Says errOf ErrAt TabAt)
def passL (F : ByteArray → Nat) (l : List ByteArray) : List ByteArray := l.filter fun x => decide (F x = 0)
theorem passL_snoc (F : ByteArray → Nat) {l : List ByteArray} {k : Nat} {x : ByteArray} (h : l[k]? = some x) : passL F (l.take (k + 1)) = passL F (l.take k) ++ if F x = 0 then [x] else [] := by
 unfold passL
 rw [take_snoc h, List.filter_append]
 congr 1
 by_cases h0 : F x = 0 <;> simp [h0]
theorem passL_len (F : ByteArray → Nat) (l : List ByteArray) : (passL F l).length ≤ l.length := List.length_filter_le _ _
def OfIs (wb : Nat) (p : ByteArray) (now : Int) (q : Option Addr) (F : ByteArray → Nat) (x : ByteArray) (W : World) : Prop := Calls Tryz.prog 20 #[.pointer (some ⟨wb, 0, none⟩), .string p, .string x, .int .i64 now, .pointer q] W fun e w' => e = .returned (.int .i64 (F x : Nat)) ∧ Below W.heap.size W w'
def PassR (w : World) (l : List ByteArray) (e : Ending) (w' : World) : Prop := ∃ A c, e = .returned (.slice A l.length c) ∧ w'.ownsRow w.heap.size 9 1 (.slice A l.length c) l.length (l.map .string) ∧ Below w.heap.size w w'
theorem pass_any (w : World) (wb : Nat) (p : ByteArray) (now : Int) (q : Option Addr) (F : ByteArray → Nat) (B : Nat) (A : Option Addr) (l : List ByteArray) (n cp : Nat) (hn : l.length = n) (hl : RowIn w B 1 A n (l.map .string)) (hB : B ≤ w.heap.size) (hb : n ≤ 100000) (hof : ∀ x ∈ l, ∀ W, Below w.heap.size w W → OfIs wb p now q F x W) :
  Calls Tryz.prog 27 #[.pointer (some ⟨wb, 0, none⟩), .string p, .int .i64 now, .pointer q, .slice A n cp] w (PassR w (passL F l)) := by
 obtain ⟨i0, hi0, hz0, hz1, hz2⟩ := info_parts str_info
 have HN := zh hn
 have HL := zh hl
 have HOF := zh hof
 clear hn hl hof
 go_enter Tryz.func27, Tryz.ntmps27
 go_wp2_with fail
 go_loopw [11, 16] (fun v i wr => ∃ (k m c5 : Nat) (A5 : Option Addr), k ≤ n ∧ m ≤ k ∧ i = .int .i64 k ∧ v = .slice A5 m c5 ∧ Hid ((passL F (l.take k)).length = m) ∧ Hid (wr.ownsRow w.heap.size 9 1 (.slice A5 m c5) m ((passL F (l.take k)).map .string)) ∧ Hid (Below w.heap.size w wr)) (fun _ i _ => n - (intOf i).toNat)
 case atStart => exact ⟨0, 0, 0, none, Nat.zero_le _, Nat.le_refl _, rfl, rfl, zh rfl, zh (own_nil w _ _ _), zh (Below.refl _ _)⟩
 case round =>
  obtain ⟨k, m, c5, A5, hk, hmk, rfl, rfl, hm, hrow, hbw⟩ := hrel
  have hwz := hbw.out.size
  by_cases hlt : k < n
  ·obtain ⟨x, hx⟩ : ∃ x, l[k]? = some x := ⟨l[k]'(by rw [HN.out]; exact hlt), List.getElem?_eq_getElem _⟩
   obtain ⟨g, o, rfl, hgB, hc⟩ := HL.out.at (by omega)
   have e0 : wr.cell? ⟨g, o + k, none⟩ = some (Value.string x) := (hbw.out.cell (p := ⟨g, o + k, none⟩) (by show g < w.heap.size; omega)).trans (hc k _ (by simp [hx]))
   have HC := zh (HOF.out x (List.mem_of_getElem? hx) wr hbw.out)
   unfold OfIs at HC
   obtain ⟨y, hy⟩ : ∃ y : Nat, F x = y := ⟨_, rfl⟩
   have HPS := zh (passL_snoc F hx)
   rw [hy] at HC HPS
   have hk8 : (k : Int) < (n : Int) := by omega
   have hk9 : (0 : Int) ≤ (k : Int) := by omega
   clear hc hx hy
   go_wp2_with fail
   refine HC.out.mono ?_
   rintro e w2 ⟨rfl, hb2⟩
   have HB2 : Hid (Below w.heap.size w w2) := zh (hbw.out.trans (hb2.mono hwz))
   have HR2 : Hid (w2.ownsRow w.heap.size 9 1 (.slice A5 m c5) m ((passL F (l.take k)).map .string)) := zh (Ru.own_below hrow.out hb2)
   have hw2 := hb2.size
   clear hb2 HC e0
   by_cases h0 : y = 0
   ·subst h0
    have HPN : Hid (passL F (l.take (k + 1)) = passL F (l.take k) ++ [x]) := zh (by rw [HPS.out, if_pos rfl])
    have hzz : ((0 : Nat) : Int) = 0 := rfl
    go_wp2_with (first
     | (at_builtin; refine wpList_append_row _ rfl _ _ 50 rfl w.heap.size 9 i0 _ 1 16 Tryz.underlying50 hi0 hz0 hz1 hz2 rfl (by omega) (.slice A5 m c5) m _ rfl (HR2.out.alloc _) (w2.heap.size + 1) (some ⟨w2.heap.size, 0, none⟩) 1 1 [.string x] rfl (one_str w2 x _) (fun h => by cases h) (fun u hu => by simp at hu; subst hu; rfl) (by unfold maxLen; omega) (by omega) (by simp; omega) ?_; intro v7 w7 ho7 hg7 hv7)
     | fail)
    obtain ⟨A7, c7, hr7⟩ := own_shape ho7
    subst hr7
    go_wp2_with fail
    go_roundw
    case rel =>
     exact ⟨k + 1, m + 1, c7, A7, by omega, by omega, by go_num, rfl, zh (by rw [HPN.out, List.length_append, hm.out]; rfl), zh (by rw [HPN.out, List.map_append]; exact ho7), zh ((HB2.out.alloc (Nat.le_trans hwz hw2) _).grown hg7 (by simp; omega) (fun j hj => (HR2.out.lt _ hj).1))⟩
    case measure => simp [intOf]; omega
   ·have HPN : Hid (passL F (l.take (k + 1)) = passL F (l.take k)) := zh (by rw [HPS.out, if_neg h0, List.append_nil])
    have hzz : ((y : Int) == 0) = false := by rw [Bool.eq_false_iff]; intro e; have := beq_iff_eq.1 e; omega
    go_wp2_with fail
    go_roundw
    case rel => exact ⟨k + 1, m, c5, A5, by omega, by omega, by go_num, rfl, zh (by rw [HPN.out]; exact hm.out), zh (by rw [HPN.out]; exact HR2.out), HB2⟩
    case measure => simp [intOf]; omega
  ·obtain rfl : n = k := by omega
   have HT : Hid (l.take n = l) := zh (by rw [← HN.out, List.take_length])
   go_wp2_with fail
   go_ret
   have h1 := hm.out
   have h2 := hrow.out
   rw [HT.out] at h1 h2
   subst h1
   exact ⟨A5, c5, rfl, h2, hbw.out⟩
theorem WdG.read {w : World} {wb base n : Nat} {c : Cfg} {v : Value} {a : Bool} {last : Ev} {b : Wb} {τ : Nat → Nat} {E ad : List Ev} {S : ByteArray → Bool} (h : WdG w wb base c v a last b τ n E ad S (thgs E) (rowsW E)) : ∃ ct cr, WrAt w wb ct cr c E := by
 obtain ⟨A, cp, hv⟩ := own_shape h.row
 subst hv
 obtain ⟨F, hF, _⟩ := h.cat
 obtain ⟨U, hU, _⟩ := h.crw
 refine ⟨b.ct, b.cr, h.blk.lt, h.blk.cell 0, h.blk.cell 1, h.blk.cell 2, h.blk.cell 3, h.blk.cell 4, h.blk.cell 5, h.blk.cell 18, h.blk.cell 19, ⟨F, hF⟩, ⟨U, hU⟩, A, cp, h.blk.cell 6, RowIn.of_own h.row, fun hA => ?_⟩
 subst hA
 rcases h.row.2 with ⟨h1, _⟩ | ⟨g, cap, cur, h1, _⟩
 ·injection h1
 ·cases h1
theorem of_nil {w : World} {wb ct cr : Nat} {c : Cfg} {E : List Ev} {p i : ByteArray} {now : Int} (h : WrAt w wb ct cr c E) (hall : ∀ e ∈ E, EvOk e) (hlen : E.length ≤ 1000) (hp : p.size ≤ 300) (hi : i.size ≤ 300) (hnow : InR now) (htg : (fzOf E p i now).tags.size ≤ 300) (F : Nat) (hF : whyP (fzOf E p i now) (hidP E p i now) c.crowd c.span true = F) :
  Calls Tryz.prog 20 #[.pointer (some ⟨wb, 0, none⟩), .string p, .string i, .int .i64 now, .pointer none] w fun e w' => e = .returned (.int .i64 (F : Nat)) ∧ Below w.heap.size w w' := by
 rw [← hF]
 exact of_any w wb ct cr c E p i now none (fun _ => true) h (RuleH.nil w) hall hlen hp hi hnow htg
def cfgX : Cfg := ⟨10, 10, 0, 10, 0, 0⟩
def exP : ByteArray := ⟨#[112]⟩
def exX : ByteArray := ⟨#[120]⟩
def exY : ByteArray := ⟨#[121]⟩
def exE1 : Ev := ⟨⟨#[115]⟩, 1, 5, 11, ⟨#[]⟩, ⟨#[120]⟩, 0, ⟨#[109, 59]⟩⟩
def exE2 : Ev := ⟨⟨#[115]⟩, 2, 5, 12, ⟨#[]⟩, ⟨#[120]⟩, 1, ⟨#[]⟩⟩
theorem exF0 : whyP (fzOf [] exP exX 5) (hidP [] exP exX 5) cfgX.crowd cfgX.span true = 1 := by decide
theorem exF1 : whyP (fzOf [exE1] exP exX 5) (hidP [exE1] exP exX 5) cfgX.crowd cfgX.span true = 2 := by decide
theorem exN1 : nameB ⟨#[115]⟩ = true := by kernel_rfl
theorem exN2 : nameB ⟨#[120]⟩ = true := by kernel_rfl
theorem exL1 : listB ⟨#[109, 59]⟩ = true := by kernel_rfl
theorem exM0 : empB ⟨#[]⟩ = true := by unfold empB; rw [emp_iff]; rfl
theorem exOk1 : EvOk exE1 := ⟨by simp [mayB, kindB, exE1, exN1, exN2, exL1, exM0], by unfold EvLe exE1; decide⟩
theorem exOk2 : EvOk exE2 := ⟨by simp [mayB, kindB, exE2, exN1, exN2, exM0], by unfold EvLe exE2; decide⟩
theorem cfgX_ok : CfgOk cfgX := ⟨by decide, by decide, by decide, by decide, by decide, by decide, by decide⟩
def exF (x : ByteArray) : Nat := whyP (fzOf [exE1, exE2] exP x 5) (hidP [exE1, exE2] exP x 5) cfgX.crowd cfgX.span true
theorem row3_at {w : World} {g : Nat} {a b c : ByteArray} (h : Blk w g 9 #[.string a, .string b, .string c]) : RowIn w w.heap.size 1 (some ⟨g, 0, none⟩) 3 ([a, b, c].map Value.string) := by
 refine ⟨rfl, Or.inr ⟨g, 0, rfl, h.lt, fun j u hu => ?_⟩⟩
 rw [Nat.zero_add, h.cell]
 simpa using hu
theorem exNx : NextE [exE1] exE2 := by
 intro x hx
 have h : x = exE1 := by simpa using hx
 rw [h]
 decide
theorem lives_any (w : World) (hg : LbAt w) (hf : FnAt w) : Calls Tryz.prog 15 #[] w fun e w' => e = .returned (.bool true) ∧ Below w.heap.size w w' := by
 have HNW := zh (wnew_any cfgX w cfgX_ok)
 have HG := zh hg
 have HF := zh hf
 unfold cfgA cfgX at HNW
 dsimp only at HNW
 clear hg hf
 go_enter Tryz.func15, Tryz.ntmps15
 go_wp2_with fail
 refine HNW.out.mono ?_
 rintro e w1 ⟨wb, b, τ, rfl, h1, hb1⟩
 obtain ⟨ct1, cr1, hr1⟩ := WdG.read (E := []) h1
 have HO1 := zh (of_nil (p := exP) (i := exX) (now := 5) hr1 (by simp) (by simp) (by decide) (by decide) (by unfold InR; omega) (by decide) 1 exF0)
 have H1 := zh h1
 have HB1 := zh hb1
 unfold exP exX at HO1
 clear h1 hb1 HNW hr1
 go_wp2_with fail
 refine HO1.out.mono ?_
 rintro e w2 ⟨rfl, hb2⟩
 have HB2 : Hid (Below w.heap.size w w2) := zh (HB1.out.trans (hb2.mono HB1.out.size))
 have HA2 := zh (wadd_any w2 wb w.heap.size cfgX (.slice none 0 0) false ev0 b τ 0 (fun _ => false) [] exE1 (H1.out.below hb2) (fun x hx => (by cases hx)) exOk1 (by simp) (by simp) (by omega) (HG.out.g.keep HB2.out (Nat.le_refl _)) HG.out.g.1 (fun h => by cases h) rfl rfl (by decide))
 unfold evA exE1 at HA2
 dsimp only at HA2
 have HLOW : Hid (∀ q, τ q ≠ 0 → w.heap.size ≤ q) := zh (fun q hq => (H1.out.low q hq).1)
 clear hb2 HO1 H1
 go_wp2_with fail
 refine HA2.out.mono ?_
 rintro e w3 ⟨rfl, v3, b3, τ3, h3, k3, _⟩
 have HB3 : Hid (Below w.heap.size w w3) := zh (HB2.out.trans (k3.toBelow HLOW.out HB2.out.size))
 obtain ⟨ct3, cr3, hr3⟩ := WdG.read (E := [exE1]) h3
 have HO3 := zh (of_nil (p := exP) (i := exX) (now := 5) hr3 (by simp; exact exOk1) (by simp) (by decide) (by decide) (by unfold InR; omega) (by decide) 2 exF1)
 have H3 := zh h3
 unfold exP exX at HO3
 clear h3 k3 HA2 hr3
 go_wp2_with fail
 refine HO3.out.mono ?_
 rintro e w4 ⟨rfl, hb4⟩
 have HB4 : Hid (Below w.heap.size w w4) := zh (HB3.out.trans (hb4.mono HB3.out.size))
 have HA4 := zh (wadd_any w4 wb w.heap.size cfgX v3 true exE1 b3 τ3 9 (fun _ => false) [exE1] exE2 (H3.out.below hb4) exNx exOk2 (by simp; exact exOk1) (by simp) (by omega) (HG.out.g.keep HB4.out (Nat.le_refl _)) HG.out.g.1 (fun _ => by decide) (by decide) rfl (by decide))
 unfold evA exE2 at HA4
 dsimp only at HA4
 have HLOW3 : Hid (∀ q, τ3 q ≠ 0 → w.heap.size ≤ q) := zh (fun q hq => (H3.out.low q hq).1)
 clear hb4 HO3 H3
 go_wp2_with fail
 refine HA4.out.mono ?_
 rintro e w5 ⟨rfl, v5, b5, τ5, h5, k5, _⟩
 have HB5 : Hid (Below w.heap.size w w5) := zh (HB4.out.trans (k5.toBelow HLOW3.out HB4.out.size))
 obtain ⟨ct5, cr5, hr5⟩ := WdG.read (E := [exE1, exE2]) h5
 obtain ⟨w6, hw6⟩ : ∃ w6, w5.alloc (.cells #[.string ⟨#[120]⟩, .string ⟨#[121]⟩, .string ⟨#[120]⟩] 9) = w6 := ⟨_, rfl⟩
 have hx6 : Blk w6 w5.heap.size 9 #[.string exX, .string exY, .string exX] := by rw [← hw6]; exact Blk.new _ _ _
 have hb6 : Below w5.heap.size w5 w6 := by rw [← hw6]; exact (Below.refl _ _).alloc (Nat.le_refl _) _
 have HB6 : Hid (Below w.heap.size w w6) := zh (HB5.out.trans (hb6.mono HB5.out.size))
 have HP6 := zh (pass_any w6 wb exP 5 none exF w6.heap.size (some ⟨w5.heap.size, 0, none⟩) [exX, exY, exX] 3 3 rfl (row3_at hx6) (Nat.le_refl _) (by omega) (fun x hx W hW => by
  have hwr := (hr5.below hb6).below hW
  have hxs : x = exX ∨ x = exY := by simp at hx; rcases hx with h | h | h <;> simp [h]
  have hok : ∀ e ∈ [exE1, exE2], EvOk e := by
   intro e he
   simp at he
   rcases he with rfl | rfl
   ·exact exOk1
   ·exact exOk2
  rcases hxs with rfl | rfl
  ·exact of_nil (p := exP) (i := exX) (now := 5) hwr hok (by simp) (by decide) (by decide) (by unfold InR; omega) (by decide) _ rfl
  ·exact of_nil (p := exP) (i := exY) (now := 5) hwr hok (by simp) (by decide) (by decide) (by unfold InR; omega) (by decide) _ rfl))
 have hpl : passL exF [exX, exY, exX] = [exX, exX] := by decide
 rw [hpl] at HP6
 unfold PassR exP at HP6
 clear h5 k5 HA4 hr5 hx6 hb6 hpl
 go_wp2_with fail
 refine HP6.out.mono ?_
 rintro e w7 ⟨A7, c7, rfl, h7, hb7⟩
 have HB7 : Hid (Below w.heap.size w w7) := zh (HB6.out.trans (hb7.mono HB6.out.size))
 obtain ⟨g7, o7, rfl, _, hc7⟩ := (RowIn.of_own h7).at (by simp)
 have e1 : w7.cell? ⟨g7, o7 + 1, none⟩ = some (.string ⟨#[120]⟩) := hc7 1 _ rfl
 have HFN := zh (fname_any 6 w7 (HF.out.keep HB7.out))
 have hwn : whyN 6 = ⟨#[114, 117, 108, 101, 100]⟩ := by decide
 rw [hwn] at HFN
 have hln : ([exX, exX] : List ByteArray).length = 2 := rfl
 clear h7 hb7 hc7 HP6 hwn
 go_wp2_with fail
 refine HFN.out.mono ?_
 rintro e w8 ⟨rfl, hb8⟩
 have HB8 : Hid (Below w.heap.size w w8) := zh (HB7.out.trans (hb8.mono HB7.out.size))
 clear hb8 HFN
 go_wp2_with fail
 go_ret
 exact ⟨rfl, HB8.out⟩
end Go.Proofs.YthdmpcnnbminlaaGreatDoor
