/- Few, Some, Big, made. -/
import Derived.Test.YtikbckpphkpaiaaGreatDoorFdDiff
import Derived.Test.YtikbckpphkpaiaaGreatDoorCatO
namespace Go.Proofs.YtikbckpphkpaiaaGreatDoor
open Go.Shelf Go.RowKit Go.Maps
set_option linter.unusedVariables false

/-- A list of rows that was handed in. -/
def RoBd (r : Ro) : Prop := r.name.size ≤ 281474976710656 ∧ r.maker.size ≤ 281474976710656 ∧ r.tags.size ≤ 281474976710656
def RoArg (w : World) (A : Option Addr) (n c : Nat) (l : List Ro) : Prop := l.length = n ∧ RowIn w w.heap.size 5 A n (l.flatMap roC) ∧ n ≤ 140737488355328 ∧ (A = none → c = 0) ∧ ∀ r ∈ l, RoBd r
def RoFew (r : Ro) : Prop := r.name.size + r.maker.size + r.tags.size ≤ 600
theorem ro_at {w : World} {B : Nat} {A : Option Addr} {l : List Ro} {n : Nat} (h : RowIn w B 5 A n (l.flatMap roC)) (hn : 0 < n) : ∃ g o, A = some ⟨g, o, none⟩ ∧ g < B ∧ ∀ (k : Nat) r, l[k]? = some r → w.cell? ⟨g, o + k * 5, none⟩ = some (.string r.name) ∧ w.cell? ⟨g, o + k * 5 + 1, none⟩ = some (.string r.maker) ∧ w.cell? ⟨g, o + k * 5 + 2, none⟩ = some (.string r.tags) ∧ w.cell? ⟨g, o + k * 5 + 3, none⟩ = some (.int .i64 r.price) ∧ w.cell? ⟨g, o + k * 5 + 4, none⟩ = some (.int .i64 r.stock) := by
  obtain ⟨g, o, h1, h2, h3⟩ := h.at hn
  have q := fun (k : Nat) (r : Ro) (hx : l[k]? = some r) (j : Nat) (hj : j < 5) (u : Value) (hu : (roC r)[j]? = some u) => h3 (k * 5 + j) u ((flat_get roC 5 roC_len _ k j r hx hj).trans hu)
  refine ⟨g, o, h1, h2, fun k r hx => ⟨?_, ?_, ?_, ?_, ?_⟩⟩
  · exact q k r hx 0 (by omega) _ rfl
  · rw [Nat.add_assoc]; exact q k r hx 1 (by omega) _ rfl
  · rw [Nat.add_assoc]; exact q k r hx 2 (by omega) _ rfl
  · rw [Nat.add_assoc]; exact q k r hx 3 (by omega) _ rfl
  · rw [Nat.add_assoc]; exact q k r hx 4 (by omega) _ rfl

set_option maxHeartbeats 2000000 in
set_option maxRecDepth 100000 in
theorem few_any (w : World) (B : Nat) (A : Option Addr) (l : List Ro) (n c : Nat) (hn : l.length = n) (hl : RowIn w B 5 A n (l.flatMap roC)) (hB : B ≤ w.heap.size) (hb : n ≤ 140737488355328) (hbd : ∀ e ∈ l, RoBd e) :
    Calls Tryz.prog 10 #[.slice A n c] w fun e w' => ∃ b : Bool, e = .returned (.bool b) ∧ (b = true → n ≤ 31 ∧ ∀ x ∈ l, RoFew x) ∧ ∃ q, w' = w.drewN q := by
  have HN := Lib.hid hn
  have HL := Lib.hid hl
  have HD := Lib.hid hbd
  clear hn hl hbd
  go_enter Tryz.func10, Tryz.ntmps10
  go_wp2_with fail
  go_loopw [3] (fun i wr => ∃ k q : Nat, k ≤ n ∧ k ≤ 31 ∧ i = .int .i64 k ∧ Hid (∀ j x, j < k → l[j]? = some x → RoFew x) ∧ wr = w.drewN q) (fun i _ => n - (intOf i).toNat)
  case atStart => exact ⟨0, 0, Nat.zero_le _, by omega, rfl, Lib.hid (fun j x hj => by omega), rfl⟩
  case round =>
    obtain ⟨k, q, hk, hk61, rfl, hok, rfl⟩ := hrel
    by_cases hlt : k < n
    · obtain ⟨x, hx⟩ : ∃ x, l[k]? = some x := ⟨l[k]'(by rw [HN.out]; exact hlt), List.getElem?_eq_getElem _⟩
      obtain ⟨g, o, rfl, _, hc⟩ := ro_at HL.out (by omega)
      obtain ⟨e0, e1, e2, e3, e4⟩ := hc k x hx
      obtain ⟨d0, d1, d2⟩ := HD.out x (List.mem_of_getElem? hx)
      have HX := Lib.hid hx
      have hk8 : (k : Int) < (n : Int) := by omega
      have hk9 : (0 : Int) ≤ (k : Int) := by omega
      have i1 : IntKind.i64.wrap ((x.name.size : Int) + (x.maker.size : Int)) = (x.name.size : Int) + (x.maker.size : Int) := IntWalk.i64_in _ (by omega)
      have i2 : IntKind.i64.wrap ((x.name.size : Int) + (x.maker.size : Int) + (x.tags.size : Int)) = (x.name.size : Int) + (x.maker.size : Int) + (x.tags.size : Int) := IntWalk.i64_in _ (by omega)
      clear hx hc e3 e4
      by_cases hs : (600 : Int) < (x.name.size : Int) + (x.maker.size : Int) + (x.tags.size : Int)
      · have hd : decide ((600 : Int) < (x.name.size : Int) + (x.maker.size : Int) + (x.tags.size : Int)) = true := decide_eq_true hs
        clear hs
        by_cases h60 : (30 : Int) < (k : Int)
        · have hd2 : decide ((30 : Int) < (k : Int)) = true := decide_eq_true h60
          go_wp2_with fail
          go_quiet (fail)
          go_wp2_with fail
          go_ret
          exact ⟨false, rfl, (fun h => by cases h), q + nq, by simp⟩
        · have hd2 : decide ((30 : Int) < (k : Int)) = false := decide_eq_false h60
          go_wp2_with fail
          go_quiet (fail)
          go_wp2_with fail
          go_ret
          exact ⟨false, rfl, (fun h => by cases h), q + nq, by simp⟩
      · have hd : decide ((600 : Int) < (x.name.size : Int) + (x.maker.size : Int) + (x.tags.size : Int)) = false := decide_eq_false hs
        have HS : Hid (RoFew x) := Lib.hid (by unfold RoFew; omega)
        clear hs
        by_cases h60 : (30 : Int) < (k : Int)
        · have hd2 : decide ((30 : Int) < (k : Int)) = true := decide_eq_true h60
          go_wp2_with fail
          go_quiet (fail)
          go_wp2_with fail
          go_ret
          exact ⟨false, rfl, (fun h => by cases h), q + nq, by simp⟩
        · have hd2 : decide ((30 : Int) < (k : Int)) = false := decide_eq_false h60
          go_wp2_with fail
          go_quiet (fail)
          go_wp2_with fail
          go_roundw
          case rel =>
            refine ⟨k + 1, q + nq, by omega, by omega, by go_num, Lib.hid (fun j y hj hy => ?_), by first | rfl | simp⟩
            by_cases e : j = k
            · subst e
              rw [HX.out] at hy
              cases hy
              exact HS.out
            · exact hok.out j y (by omega) hy
          case measure => simp [intOf]; omega
    · obtain rfl : n = k := by omega
      go_wp2_with fail
      go_ret
      refine ⟨true, rfl, fun _ => ⟨hk61, fun x hx => ?_⟩, _, rfl⟩
      obtain ⟨j, hj⟩ := List.mem_iff_getElem?.1 hx
      exact hok.out j x (by have := (List.getElem?_eq_some_iff.1 hj).1; rw [HN.out] at this; exact this) hj

/-- The texts of an event are short. -/
def EvSmall (e : Ev) : Prop := e.src.size ≤ 300 ∧ e.person.size ≤ 300 ∧ e.item.size ≤ 300 ∧ e.text.size ≤ 300
theorem EvSmall.sh {e : Ev} (h : EvSmall e) : EvSh e := by obtain ⟨h1, h2, h3, h4⟩ := h; exact ⟨by omega, by omega, by omega, by omega⟩




end Go.Proofs.YtikbckpphkpaiaaGreatDoor
