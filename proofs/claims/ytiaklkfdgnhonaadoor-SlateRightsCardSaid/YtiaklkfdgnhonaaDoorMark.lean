/- Marks in memory; slices.Index and slices.Contains of them. -/
import Derived.Test.YtiaklkfdgnhonaaDoorRank
namespace Go.Proofs.YtiaklkfdgnhonaaDoor
open Go.Shelf Go.RowKit Go.Lib Go.Sort Go.Maps
set_option linter.unusedVariables false

structure Mk where
  tag : Bool
  name : ByteArray
deriving DecidableEq

def mkC (m : Mk) : List Value := [.bool m.tag, .string m.name]
theorem mkC_len (x : Mk) : (mkC x).length = 2 := rfl
theorem mkC_one : ∀ (l : List Mk), ∀ u ∈ l.flatMap mkC, u.oneCell' = true := by
  intro l u hu
  obtain ⟨x, _, hx⟩ := List.mem_flatMap.1 hu
  simp [mkC] at hx
  rcases hx with rfl | rfl <;> rfl
theorem mk_info : (Tryd.prog.info? 47).map (fun i => (i.zero, i.size, i.bytes)) = some (some (.agg #[.bool false, .string ⟨#[]⟩]), 2, 24) := by kernel_rfl

/-- Are two marks one? -/
def mkB (x y : Mk) : Bool := decide (x = y)
theorem below_drewN {B : Nat} {w w' : World} (h : Below B w w') (n : Nat) : Below B w (w'.drewN n) := ⟨h.os, h.tape, h.output, h.size, h.block⟩

@[go_sem high] theorem eq_mk (a : Bool) (b : ByteArray) (a' : Bool) (b' : ByteArray) (w : World) :
    (Op.equalIn 10000 47 (.agg #[.bool a, .string b]) (.agg #[.bool a', .string b'])).run Tryd.prog w = .ok (mkB ⟨a, b⟩ ⟨a', b'⟩) w := by
  have e : ∀ x y : ByteArray, (x.toList == y.toList) = decide (x = y) := fun x y => by
    by_cases h : x = y
    · subst h; simp
    · rw [Bool.eq_false_iff.2 (fun e => h ((beq_list x y).1 e))]; simp [h]
  by_cases h1 : a = a' <;> by_cases h2 : b = b' <;> simp [go_sem, e, mkB, h1, h2]

def MksAt (w : World) (B : Nat) (A : Option Addr) (l : List Mk) : Prop := RowIn w B 2 A l.length (l.flatMap mkC)
theorem MksAt.at {w : World} {B : Nat} {A : Option Addr} {l : List Mk} (h : MksAt w B A l) (hl : 0 < l.length) : ∃ b off, A = some ⟨b, off, none⟩ ∧ b < B ∧ ∀ i x, l[i]? = some x → w.cell? ⟨b, off + i * 2, none⟩ = some (.bool x.tag) ∧ w.cell? ⟨b, off + i * 2 + 1, none⟩ = some (.string x.name) := by
  obtain ⟨b, off, hA, hb, hc⟩ := RowIn.at h hl
  refine ⟨b, off, hA, hb, fun i x hx => ?_⟩
  have g := fun j (hj : j < 2) => flat_get mkC 2 mkC_len l i j x hx hj
  refine ⟨?_, ?_⟩
  · have := hc (i * 2 + 0) _ (by rw [g 0 (by omega)]; rfl); exact this
  · have := hc (i * 2 + 1) _ (by rw [g 1 (by omega)]; rfl); rw [Nat.add_assoc]; exact this

/-- A row of one mark, just made. -/
theorem one_mk (w : World) (x : Mk) (t : TypeId) : RowIn (w.alloc (.cells #[.bool x.tag, .string x.name] t)) (w.heap.size + 1) 2 (some ⟨w.heap.size, 0, none⟩) 1 (mkC x) := by
  refine ⟨rfl, Or.inr ⟨w.heap.size, 0, rfl, by omega, fun j u hu => ?_⟩⟩
  rw [(Blk.new w t _).cell]
  rw [← hu, Nat.zero_add]
  simp [mkC]

set_option maxHeartbeats 1000000 in
set_option maxRecDepth 100000 in
theorem index_any (w : World) (B : Nat) (A : Option Addr) (l : List Mk) (n c : Nat) (x : Mk) (hn : l.length = n) (hl : MksAt w B A l) (hB : B ≤ w.heap.size) (hb : n ≤ 1000000) :
    Calls Tryd.prog 53 #[.slice A n c, .agg #[.bool x.tag, .string x.name]] w fun e w' => ∃ r : Int, e = .returned (.int .i64 r) ∧ (0 ≤ r ↔ x ∈ l) ∧ Below w.heap.size w w' := by
  obtain ⟨xt, xn⟩ := x
  dsimp only
  have HN := Lib.hid hn
  have hl2 : MksAt (w.alloc (.cells #[.bool xt, .string xn] 47)) B A l := RowIn.alloc hl hB _
  have bx := Blk.new w 47 #[.bool xt, .string xn]
  have hB1 : Below w.heap.size w (w.alloc (.cells #[.bool xt, .string xn] 47)) := (Below.refl _ _).alloc (Nat.le_refl _) _
  clear hn hl
  obtain ⟨w1, hw1⟩ : ∃ w1, w.alloc (.cells #[.bool xt, .string xn] 47) = w1 := ⟨_, rfl⟩
  rw [hw1] at hl2 bx hB1
  have x0 : w1.cell? ⟨w.heap.size, 0, none⟩ = some (.bool xt) := bx.cell 0
  have x1 : w1.cell? ⟨w.heap.size, 1, none⟩ = some (.string xn) := bx.cell 1
  clear bx
  go_enter Tryd.func53, Tryd.ntmps53
  go_wp2_with fail
  (try rw [hw1])
  clear hw1
  go_loopw [8] (fun i wr => ∃ k q : Nat, k ≤ n ∧ i = .int .i64 k ∧ Hid (∀ j y, j < k → l[j]? = some y → y ≠ ⟨xt, xn⟩) ∧ wr = w1.drewN q) (fun i _ => n - (intOf i).toNat)
  case atStart => exact ⟨0, 0, Nat.zero_le _, rfl, Lib.hid (fun j y hj => by omega), rfl⟩
  case round =>
    obtain ⟨k, q, hk, rfl, hno, rfl⟩ := hrel
    by_cases hlt : k < n
    · obtain ⟨y, hy⟩ : ∃ y, l[k]? = some y := ⟨l[k]'(by rw [HN.out]; exact hlt), List.getElem?_eq_getElem _⟩
      obtain ⟨g, o, rfl, _, hc⟩ := hl2.at (by rw [HN.out]; omega)
      obtain ⟨e0, e1⟩ := hc k y hy
      have HY := Lib.hid hy
      have hk8 : (k : Int) < (n : Int) := by omega
      have hk9 : (0 : Int) ≤ (k : Int) := by omega
      obtain ⟨yt, yn⟩ := y
      dsimp only at e0 e1
      clear hy hc hl2
      by_cases he : (⟨xt, xn⟩ : Mk) = ⟨yt, yn⟩
      · have hd : mkB ⟨xt, xn⟩ ⟨yt, yn⟩ = true := decide_eq_true he
        have HE := Lib.hid he
        clear he
        go_wp2_with fail
        go_quiet (fail)
        go_wp2_with fail
        go_ret
        refine ⟨(k : Int), rfl, ⟨fun _ => ?_, fun _ => by omega⟩, below_drewN (below_drewN hB1 _) _⟩
        rw [HE.out]
        exact List.mem_of_getElem? HY.out
      · have hd : mkB ⟨xt, xn⟩ ⟨yt, yn⟩ = false := decide_eq_false he
        have HE := Lib.hid he
        clear he
        go_wp2_with fail
        go_quiet (fail)
        go_wp2_with fail
        go_roundw
        case rel =>
          refine ⟨k + 1, q + nq, by omega, by go_num, Lib.hid (fun j z hj hz => ?_), by first | rfl | simp⟩
          by_cases e : j = k
          · subst e
            rw [HY.out] at hz
            cases hz
            exact fun h => HE.out h.symm
          · exact hno.out j z (by omega) hz
        case measure => simp [intOf]; omega
    · go_wp2_with fail
      go_ret
      refine ⟨-1, rfl, ⟨fun h => (by omega), fun h => ?_⟩, below_drewN hB1 _⟩
      obtain ⟨j, hj⟩ := List.mem_iff_getElem?.1 h
      exact absurd rfl (hno.out j _ (by have := (List.getElem?_eq_some_iff.1 hj).1; rw [HN.out] at this; omega) hj)

set_option maxHeartbeats 1000000 in
set_option maxRecDepth 100000 in
theorem contains_any (w : World) (B : Nat) (A : Option Addr) (l : List Mk) (n c : Nat) (x : Mk) (hn : l.length = n) (hl : MksAt w B A l) (hB : B ≤ w.heap.size) (hb : n ≤ 1000000) :
    Calls Tryd.prog 38 #[.slice A n c, .agg #[.bool x.tag, .string x.name]] w fun e w' => e = .returned (.bool (decide (x ∈ l))) ∧ Below w.heap.size w w' := by
  obtain ⟨xt, xn⟩ := x
  dsimp only
  have hl2 : MksAt (w.alloc (.cells #[.bool xt, .string xn] 47)) B A l := RowIn.alloc hl hB _
  have HI := Lib.hid (index_any (w.alloc (.cells #[.bool xt, .string xn] 47)) B A l n c ⟨xt, xn⟩ hn hl2 (by simp; omega) hb)
  clear hl hl2 hn
  go_enter Tryd.func38, Tryd.ntmps38
  go_wp2_with fail
  refine HI.out.mono ?_
  rintro e w1 ⟨r, rfl, hr, hb1⟩
  have hd : decide (0 ≤ r) = decide ((⟨xt, xn⟩ : Mk) ∈ l) := decide_eq_decide.2 hr
  have HD := Lib.hid hd
  clear hd hr HI
  go_wp2_with fail
  go_ret
  refine ⟨ret_bool ?_, ((Below.refl _ _).alloc (Nat.le_refl _) _).trans (hb1.mono (by simp))⟩
  rw [← HD.out]

end Go.Proofs.YtiaklkfdgnhonaaDoor
