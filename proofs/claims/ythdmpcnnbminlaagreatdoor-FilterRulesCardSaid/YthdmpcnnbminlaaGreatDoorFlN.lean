/- Rules joined: plain. -/
import Derived.Test.YthdmpcnnbminlaaGreatDoorFlH
namespace Go.Proofs.YthdmpcnnbminlaaGreatDoor
open Go.Shelf Go.RowKit Go.Maps
open Ru (Fz fzA fzX Fx Nd NF NdAt holdsN holdsR someNot ownN ownL ownM sepW mkRow parts' Okv PartsOk RowV RuleV ruleT)
set_option linter.unusedVariables false
def sumP (l : List Nd) : Nat := (l.map fun n => (ownN n 2).length + 5).sum
theorem sep1 : (sepW 1).length = 5 := by decide
theorem ownM_sum : ∀ l : List Nd, (ownM l 1).length = sumP l
 | [] => rfl
 | n :: l => by
  have h := ownM_sum l
  unfold ownM sumP
  rw [List.length_append, List.length_append, sep1, h]
  simp only [List.map_cons, List.sum_cons]
  show 5 + (ownN n 2).length + sumP l = (ownN n 2).length + 5 + sumP l
  omega
theorem sumP_app (a b : List Nd) : sumP (a ++ b) = sumP a + sumP b := by unfold sumP; simp
theorem ownL_sum (l : List Nd) : (ownL l 1).length ≤ sumP l := by
 cases l with
 | nil => exact Nat.zero_le _
 | cons n l =>
  unfold ownL
  rw [List.length_append, ownM_sum]
  show (ownN n 2).length + sumP l ≤ (ownN n 2).length + 5 + sumP l
  omega
theorem ownM_ge (k : Nat) : ∀ l : List Nd, l.length ≤ (ownM l k).length
 | [] => Nat.zero_le _
 | n :: l => by
  have h := ownM_ge k l
  unfold ownM
  rw [List.length_append, List.length_append]
  have : 1 ≤ (sepW k).length := by unfold sepW; simp
  simp only [List.length_cons]
  omega
theorem ownL_ge (k : Nat) (l : List Nd) : l.length ≤ (ownL l k).length + 1 := by
 cases l with
 | nil => exact Nat.zero_le _
 | cons n l =>
  have := ownM_ge k l
  unfold ownL
  rw [List.length_append, List.length_cons]
  omega
theorem own_row0 (k : Nat) (l : List Nd) : ownN (.row k l) 0 = ownL l k := by
 unfold ownN
 rw [if_neg (by omega)]
theorem own2_le (n : Nd) : (ownN n 2).length ≤ (ownN n 0).length + 2 := by
 cases n with
 | atom a => simp [ownN]
 | no m => simp [ownN]
 | row k l =>
  rw [own_row0]
  unfold ownN
  split
  ·simp
  ·omega
theorem sumP_parts (n : Nd) : sumP (parts' 1 n) ≤ (ownN n 0).length + 7 := by
 have h1 : ∀ m : Nd, sumP [m] ≤ (ownN m 0).length + 7 := fun m => by
  have := own2_le m
  unfold sumP
  simp only [List.map_cons, List.map_nil, List.sum_cons, List.sum_nil]
  omega
 cases n with
 | atom a => exact h1 _
 | no m => exact h1 _
 | row k l =>
  show sumP (if k = 1 then l else [.row k l]) ≤ _
  by_cases hk : k = 1
  ·subst hk
   rw [if_pos rfl, own_row0]
   cases l with
   | nil => exact Nat.zero_le _
   | cons n l =>
    unfold ownL
    rw [List.length_append, ownM_sum]
    show (ownN n 2).length + 5 + sumP l ≤ _
    have : (ownN n (1 + 1)).length = (ownN n 2).length := rfl
    omega
  ·rw [if_neg hk]
   exact h1 _
theorem sumP_flat : ∀ ns : List Nd, (∀ n ∈ ns, (ownN n 0).length ≤ 4000) → sumP (ns.flatMap (parts' 1)) ≤ ns.length * 4007
 | [], _ => Nat.zero_le _
 | n :: ns, h => by
  rw [List.flatMap_cons, sumP_app]
  have h1 := sumP_parts n
  have h2 := h n List.mem_cons_self
  have h3 := sumP_flat ns (fun m hm => h m (List.mem_cons_of_mem _ hm))
  rw [List.length_cons, Nat.succ_mul]
  omega
theorem mkRow_size (l : List Nd) : (ownN (mkRow 1 l) 0).length ≤ sumP l := by
 match l with
 | [] => rw [show mkRow 1 [] = .row 1 [] from rfl, own_row0]; exact ownL_sum _
 | [n] =>
  have := Ru.ownN_mono n (show 0 ≤ 2 by omega)
  show (ownN n 0).length ≤ (ownN n 2).length + 5 + 0
  omega
 | a :: b :: r => rw [show mkRow 1 (a :: b :: r) = .row 1 (a :: b :: r) from rfl, own_row0]; exact ownL_sum _
theorem not_someNot (f : Fx) : ∀ l : List Nd, (!someNot f l) = l.all (holdsN f)
 | [] => rfl
 | n :: l => by
  have h := not_someNot f l
  rw [List.all_cons, ← h]
  show (!(!holdsN f n || someNot f l)) = _
  cases holdsN f n <;> simp
theorem holds_row1 (f : Fx) (l : List Nd) : holdsN f (.row 1 l) = l.all (holdsN f) := by
 rw [← not_someNot]
 show (if (1 : Nat) = 0 then _ else !someNot f l) = _
 rw [if_neg (by omega)]
theorem holds_parts (f : Fx) (n : Nd) : (parts' 1 n).all (holdsN f) = holdsN f n := by
 cases n with
 | atom a => simp [parts']
 | no m => simp [parts']
 | row k l =>
  show (if k = 1 then l else [.row k l]).all (holdsN f) = _
  by_cases hk : k = 1
  ·subst hk
   rw [if_pos rfl, holds_row1]
  ·rw [if_neg hk]
   simp
theorem holds_flat (f : Fx) (ns : List Nd) : (ns.flatMap (parts' 1)).all (holdsN f) = ns.all (holdsN f) := by
 induction ns with
 | nil => rfl
 | cons n ns ih => rw [List.flatMap_cons, List.all_append, ih, holds_parts, List.all_cons]
theorem holds_mk (f : Fx) (l : List Nd) : holdsN f (mkRow 1 l) = l.all (holdsN f) := by
 match l with
 | [] => exact holds_row1 f []
 | [n] => simp [mkRow]
 | a :: b :: r => exact holds_row1 f (a :: b :: r)
theorem okv_nd {w : World} {B : Nat} {n : Nd} {v : Value} (h : NdAt w B n v) (hn : NF n) (hsz : (ownN n 0).length ≤ 4000) : Okv w B 4001 v := by
 cases h with
 | atom a => exact (Okv.leaf w B a).mono (by omega)
 | no h => exact (Okv.no _).mono (by omega)
 | @row k l A m c xs hr hl h =>
  cases hn with
  | row hk _ _ h2 =>
   rw [own_row0] at hsz
   have := ownL_ge k l
   exact ⟨by omega, rfl, Or.inr (Or.inr ⟨k, A, m, c, xs, hk, rfl, hr, by omega, by omega⟩)⟩
theorem iface_nd {w : World} {B : Nat} {n : Nd} {v : Value} (h : NdAt w B n v) : ∃ t x, v = .iface t x := by
 cases h with
 | atom a => cases a <;> exact ⟨_, _, rfl⟩
 | no h => exact ⟨_, _, rfl⟩
 | row hr hl h => exact ⟨_, _, rfl⟩
end Go.Proofs.YthdmpcnnbminlaaGreatDoor
