/- New; slices.Contains; the order of events. -/
import Derived.Test.YtnkglbiakjnfjaaDoorCrNote
namespace Go.Proofs.YtnkglbiakjnfjaaDoor
open Go.Shelf Go.RowKit Go.Maps
set_option linter.unusedVariables false

theorem cmpB_tri (a b : ByteArray) : cmpB a b = -1 ∨ cmpB a b = 0 ∨ cmpB a b = 1 := by
  unfold cmpB
  generalize a.data.toList = x
  generalize b.data.toList = y
  induction x generalizing y with
  | nil => cases y <;> simp [Lib.compareBytes]
  | cons c x ih =>
    cases y with
    | nil => simp [Lib.compareBytes]
    | cons d y =>
      unfold Lib.compareBytes
      split
      · exact Or.inl rfl
      · split
        · exact Or.inr (Or.inr rfl)
        · exact ih y
theorem cmpI_tri (a b : Int) : cmpI a b = -1 ∨ cmpI a b = 0 ∨ cmpI a b = 1 := by
  unfold cmpI
  split
  · exact Or.inl rfl
  · split
    · exact Or.inr (Or.inr rfl)
    · exact Or.inr (Or.inl rfl)
theorem cmpE_tri (x y : Ev) : cmpE x y = -1 ∨ cmpE x y = 0 ∨ cmpE x y = 1 := by
  unfold cmpE
  simp only [orL]
  have h1 := cmpI_tri x.tick y.tick
  have h2 := cmpB_tri x.src y.src
  have h3 := cmpI_tri x.num y.num
  split
  · split
    · split
      · exact Or.inr (Or.inl rfl)
      · exact h3
    · exact h2
  · exact h1

set_option maxHeartbeats 1000000 in
set_option maxRecDepth 100000 in
theorem sindex_any (w : World) (B : Nat) (A : Option Addr) (l : List ByteArray) (n c : Nat) (s : ByteArray) (hn : l.length = n) (hl : RowIn w B 1 A n (l.map .string)) (hb : n ≤ 1000000) :
    Calls Tryd.prog 66 #[.slice A n c, .string s] w fun e w' => ∃ z : Int, e = .returned (.int .i64 z) ∧ (decide (0 ≤ z) = memB s l) ∧ w = w' := by
  have HN := Lib.hid hn
  have HL := Lib.hid hl
  clear hn hl
  go_enter Tryd.func66, Tryd.ntmps66
  go_wp2_with fail
  go_loopw [8] (fun i wr => ∃ k : Nat, k ≤ n ∧ i = .int .i64 k ∧ Hid (∀ j t, j < k → l[j]? = some t → t ≠ s) ∧ wr = w) (fun i _ => n - (intOf i).toNat)
  case atStart => exact ⟨0, Nat.zero_le _, rfl, Lib.hid (fun j t hj => by omega), rfl⟩
  case round =>
    obtain ⟨k, hk, rfl, hok, rfl⟩ := hrel
    by_cases hlt : k < n
    · obtain ⟨t, ht⟩ : ∃ t, l[k]? = some t := ⟨l[k]'(by rw [HN.out]; exact hlt), List.getElem?_eq_getElem _⟩
      obtain ⟨g, o, rfl, _, hc⟩ := HL.out.at (by omega)
      have e0 : wr.cell? ⟨g, o + k, none⟩ = some (.string t) := hc k _ (by simp [ht])
      have HTK := Lib.hid ht
      have hk8 : (k : Int) < (n : Int) := by omega
      have hk9 : (0 : Int) ≤ (k : Int) := by omega
      clear ht hc
      by_cases he : t = s
      · have HE : Hid (memB s l = true) := Lib.hid ((memB_iff _ _).2 (by rw [← he]; exact List.mem_of_getElem? HTK.out))
        have q1 : (s.toList == t.toList) = true := (beq_list s t).2 he.symm
        clear he
        go_wp2_with fail
        go_ret
        exact ⟨(k : Int), rfl, by rw [HE.out]; exact decide_eq_true hk9, rfl⟩
      · have HE := Lib.hid he
        have q1 : (s.toList == t.toList) = false := Bool.eq_false_iff.2 (fun e => he ((beq_list s t).1 e).symm)
        clear he
        go_wp2_with fail
        go_roundw
        case rel =>
          refine ⟨k + 1, by omega, by go_num, Lib.hid (fun j u hj hu => ?_), by trivial⟩
          by_cases e : j = k
          · subst e; rw [HTK.out] at hu; cases hu; exact HE.out
          · exact hok.out j u (by omega) hu
        case measure => simp [intOf]; omega
    · have HF : Hid (memB s l = false) := Lib.hid (by
        cases hm : memB s l
        · rfl
        · obtain ⟨j, hj⟩ := List.mem_iff_getElem?.1 ((memB_iff _ _).1 hm)
          have := (List.getElem?_eq_some_iff.1 hj).1
          rw [HN.out] at this
          exact absurd rfl (hok.out j s (by omega) hj))
      go_wp2_with fail
      go_ret
      exact ⟨-1, rfl, by rw [HF.out]; rfl, rfl⟩
theorem contains_any (w : World) (B : Nat) (A : Option Addr) (l : List ByteArray) (n c : Nat) (s : ByteArray) (hn : l.length = n) (hl : RowIn w B 1 A n (l.map .string)) (hb : n ≤ 1000000) :
    Calls Tryd.prog 53 #[.slice A n c, .string s] w fun e w' => e = .returned (.bool (memB s l)) ∧ w = w' := by
  have HI := Lib.hid (sindex_any w B A l n c s hn hl hb)
  clear hn hl
  go_enter Tryd.func53, Tryd.ntmps53
  go_wp2_with fail
  refine HI.out.mono ?_
  rintro e w2 ⟨z, rfl, hz, rfl⟩
  have HZ := Lib.hid hz
  clear hz HI
  go_wp2_with fail
  go_ret
  exact ⟨ret_bool HZ.out, rfl⟩

def halfP (h : Int) : Int := min (max h 1) 1099511627776
def ev0 : Ev := ⟨⟨#[]⟩, 0, 0, 0, ⟨#[]⟩, ⟨#[]⟩, 0, ⟨#[]⟩⟩
set_option maxHeartbeats 4000000 in
set_option maxRecDepth 100000 in
theorem new_any (h : Int) (w : World) : Calls Tryd.prog 20 #[.int .i64 h] w fun e w' => ∃ cb U, e = .returned (.pointer (some ⟨cb, 0, none⟩)) ∧ CrAt w' cb (halfP h) U [] ∧ (∀ q, U q → w.heap.size ≤ q) ∧ Below w.heap.size w w' := by
  have hmm := @run_makeMap Tryd.prog
  obtain ⟨hf, hhf⟩ : ∃ hf, min (max h 1) 1099511627776 = hf := ⟨_, rfl⟩
  have HHF : Hid (halfP h = hf) := Lib.hid hhf
  obtain ⟨w1, hw1⟩ : ∃ w1, w.alloc (.map #[] 0) = w1 := ⟨_, rfl⟩
  have z1 : Hid (w1.heap.size = w.heap.size + 1) := Lib.hid (by rw [← hw1]; simp)
  have HB1 : Hid (Below w.heap.size w w1) := Lib.hid (by rw [← hw1]; exact (Below.refl _ _).alloc (Nat.le_refl _) _)
  have HC1 : Hid (Below w.heap.size w w1) := Lib.hid (by rw [← hw1]; exact (Below.refl _ _).alloc (Nat.le_refl _) _)
  obtain ⟨w2, hw2⟩ : ∃ w2, w1.alloc (.map #[] 0) = w2 := ⟨_, rfl⟩
  have z2 : Hid (w2.heap.size = w1.heap.size + 1) := Lib.hid (by rw [← hw2]; simp)
  have HB2 : Hid (Below w.heap.size w w2) := Lib.hid (by rw [← hw2]; exact HB1.out.alloc HB1.out.size _)
  have HC2 : Hid (Below w1.heap.size w1 w2) := Lib.hid (by rw [← hw2]; exact (Below.refl _ _).alloc (Nat.le_refl _) _)
  obtain ⟨w3, hw3⟩ : ∃ w3, w2.alloc (.map #[] 0) = w3 := ⟨_, rfl⟩
  have z3 : Hid (w3.heap.size = w2.heap.size + 1) := Lib.hid (by rw [← hw3]; simp)
  have HB3 : Hid (Below w.heap.size w w3) := Lib.hid (by rw [← hw3]; exact HB2.out.alloc HB2.out.size _)
  have HC3 : Hid (Below w2.heap.size w2 w3) := Lib.hid (by rw [← hw3]; exact (Below.refl _ _).alloc (Nat.le_refl _) _)
  obtain ⟨w4, hw4⟩ : ∃ w4, w3.alloc (.map #[] 0) = w4 := ⟨_, rfl⟩
  have z4 : Hid (w4.heap.size = w3.heap.size + 1) := Lib.hid (by rw [← hw4]; simp)
  have HB4 : Hid (Below w.heap.size w w4) := Lib.hid (by rw [← hw4]; exact HB3.out.alloc HB3.out.size _)
  have HC4 : Hid (Below w3.heap.size w3 w4) := Lib.hid (by rw [← hw4]; exact (Below.refl _ _).alloc (Nat.le_refl _) _)
  obtain ⟨w5, hw5⟩ : ∃ w5, w4.alloc (.map #[] 0) = w5 := ⟨_, rfl⟩
  have z5 : Hid (w5.heap.size = w4.heap.size + 1) := Lib.hid (by rw [← hw5]; simp)
  have HB5 : Hid (Below w.heap.size w w5) := Lib.hid (by rw [← hw5]; exact HB4.out.alloc HB4.out.size _)
  have HC5 : Hid (Below w4.heap.size w4 w5) := Lib.hid (by rw [← hw5]; exact (Below.refl _ _).alloc (Nat.le_refl _) _)
  obtain ⟨w6, hw6⟩ : ∃ w6, w5.alloc (.map #[] 0) = w6 := ⟨_, rfl⟩
  have z6 : Hid (w6.heap.size = w5.heap.size + 1) := Lib.hid (by rw [← hw6]; simp)
  have HB6 : Hid (Below w.heap.size w w6) := Lib.hid (by rw [← hw6]; exact HB5.out.alloc HB5.out.size _)
  have HC6 : Hid (Below w5.heap.size w5 w6) := Lib.hid (by rw [← hw6]; exact (Below.refl _ _).alloc (Nat.le_refl _) _)
  obtain ⟨w7, hw7⟩ : ∃ w7, w6.alloc (.map #[] 0) = w7 := ⟨_, rfl⟩
  have z7 : Hid (w7.heap.size = w6.heap.size + 1) := Lib.hid (by rw [← hw7]; simp)
  have HB7 : Hid (Below w.heap.size w w7) := Lib.hid (by rw [← hw7]; exact HB6.out.alloc HB6.out.size _)
  have HC7 : Hid (Below w6.heap.size w6 w7) := Lib.hid (by rw [← hw7]; exact (Below.refl _ _).alloc (Nat.le_refl _) _)
  obtain ⟨w8, hw8⟩ : ∃ w8, w7.alloc (.map #[] 0) = w8 := ⟨_, rfl⟩
  have z8 : Hid (w8.heap.size = w7.heap.size + 1) := Lib.hid (by rw [← hw8]; simp)
  have HB8 : Hid (Below w.heap.size w w8) := Lib.hid (by rw [← hw8]; exact HB7.out.alloc HB7.out.size _)
  have HC8 : Hid (Below w7.heap.size w7 w8) := Lib.hid (by rw [← hw8]; exact (Below.refl _ _).alloc (Nat.le_refl _) _)
  have HP : Hid (GrpIn rdC 9 82 w1 w.heap.size 0 0 (fun _ => none) (fun _ => ([] : List Rd))) := Lib.hid (by rw [← hw1]; exact GrpIn.made _ _)
  have HD : Hid (Is2 okBool w2 w1.heap.size 0 (fun _ _ => none)) := Lib.hid (by rw [← hw2]; exact Is2.made _ _)
  have HS : Hid (Is2 okInt w3 w2.heap.size 0 (fun _ _ => none)) := Lib.hid (by rw [← hw3]; exact Is2.made _ _)
  have HH : Hid (Is2 okBool w4 w3.heap.size 0 (fun _ _ => none)) := Lib.hid (by rw [← hw4]; exact Is2.made _ _)
  have HF : Hid (Is2 okBool w5 w4.heap.size 0 (fun _ _ => none)) := Lib.hid (by rw [← hw5]; exact Is2.made _ _)
  have HM : Hid (Is2 okBool w6 w5.heap.size 0 (fun _ _ => none)) := Lib.hid (by rw [← hw6]; exact Is2.made _ _)
  have HL : Hid (Is2 okBool w7 w6.heap.size 0 (fun _ _ => none)) := Lib.hid (by rw [← hw7]; exact Is2.made _ _)
  have HN : Hid (MapIs Tryd.prog 9 okInt w8 w7.heap.size 0 (fun _ => none)) := Lib.hid (by rw [← hw8]; exact MapIs.made _ _ _ _)
  go_enter Tryd.func20, Tryd.ntmps20
  go_wp2_with fail
  go_ret
  obtain ⟨w9, hw9⟩ : ∃ w9, w8.alloc (.cells (crCells hf 0 ev0 ⟨w.heap.size, w1.heap.size, w2.heap.size, w3.heap.size, w4.heap.size, w5.heap.size, w6.heap.size, w7.heap.size⟩) 80) = w9 := ⟨_, rfl⟩
  have hwe : w8.alloc (.cells (crCells hf 0 ev0 ⟨w.heap.size, w1.heap.size, w2.heap.size, w3.heap.size, w4.heap.size, w5.heap.size, w6.heap.size, w7.heap.size⟩) 80) = w9 := hw9
  unfold crCells ev0 at hw9
  dsimp only at hw9
  rw [show ((0 : Nat) : Int) = 0 from rfl] at hw9
  rw [hw9]
  have b9 : Blk w9 w8.heap.size 80 (crCells hf 0 ev0 ⟨w.heap.size, w1.heap.size, w2.heap.size, w3.heap.size, w4.heap.size, w5.heap.size, w6.heap.size, w7.heap.size⟩) := by rw [← hwe]; exact Blk.new _ _ _
  have c9 : Below w8.heap.size w8 w9 := by rw [← hwe]; exact (Below.refl _ _).alloc (Nat.le_refl _) _
  have c8 : Below w7.heap.size w7 w9 := HC8.out.trans (c9.mono HC8.out.size)
  have c7 : Below w6.heap.size w6 w9 := HC7.out.trans (c8.mono HC7.out.size)
  have c6 : Below w5.heap.size w5 w9 := HC6.out.trans (c7.mono HC6.out.size)
  have c5 : Below w4.heap.size w4 w9 := HC5.out.trans (c6.mono HC5.out.size)
  have c4 : Below w3.heap.size w3 w9 := HC4.out.trans (c5.mono HC4.out.size)
  have c3 : Below w2.heap.size w2 w9 := HC3.out.trans (c4.mono HC3.out.size)
  have c2 : Below w1.heap.size w1 w9 := HC2.out.trans (c3.mono HC2.out.size)
  have zs : w1.heap.size = w.heap.size + 1 ∧ w2.heap.size = w.heap.size + 2 ∧ w3.heap.size = w.heap.size + 3 ∧ w4.heap.size = w.heap.size + 4 ∧ w5.heap.size = w.heap.size + 5 ∧ w6.heap.size = w.heap.size + 6 ∧ w7.heap.size = w.heap.size + 7 ∧ w8.heap.size = w.heap.size + 8 := by
    have := z1.out; have := z2.out; have := z3.out; have := z4.out; have := z5.out; have := z6.out; have := z7.out; have := z8.out
    omega
  have hlt := b9.lt
  rw [HHF.out]
  refine ⟨w8.heap.size, fun q => w.heap.size ≤ q ∧ q ≤ w8.heap.size, rfl, ⟨⟨w.heap.size, w1.heap.size, w2.heap.size, w3.heap.size, w4.heap.size, w5.heap.size, w6.heap.size, w7.heap.size⟩, ev0, fun _ => none, fun _ => [], ?_⟩, fun q hq => hq.1, HB8.out.trans (c9.mono HB8.out.size)⟩
  refine ⟨b9, fun l hl => (by cases hl), HP.out.below c2, fun p => ⟨rfl, fun j r x hr => (by cases hr)⟩, ?_, ?_, ⟨by omega, Nat.le_refl _⟩, ?_, fun p v g hp => (by cases hp), fun p r g hr => (by cases hr), fun q hq => by omega, fun r hr => (by cases hr), fun r hr => (by cases hr), fun r hr => (by cases hr), fun r hr => (by cases hr)⟩
  · exact ⟨HD.out.kept (below_kept (S := fun _ => False) c3 (Nat.le_refl _)) (fun h => h), HS.out.kept (below_kept (S := fun _ => False) c4 (Nat.le_refl _)) (fun h => h), HH.out.kept (below_kept (S := fun _ => False) c5 (Nat.le_refl _)) (fun h => h), HF.out.kept (below_kept (S := fun _ => False) c6 (Nat.le_refl _)) (fun h => h), HM.out.kept (below_kept (S := fun _ => False) c7 (Nat.le_refl _)) (fun h => h), HL.out.kept (below_kept (S := fun _ => False) c8 (Nat.le_refl _)) (fun h => h), (HN.out.kept (below_kept (S := fun _ => False) c9 (Nat.le_refl _)) (fun h => h)).congr (fun kl => by cases kl <;> rfl)⟩
  · unfold Bs.l
    simp only [List.nodup_cons, List.mem_cons, List.not_mem_nil, or_false, not_or, List.nodup_nil, and_true, not_false_eq_true]
    omega
  · intro q hq
    unfold Bs.l at hq
    simp only [List.mem_cons, List.not_mem_nil, or_false] at hq
    omega

end Go.Proofs.YtnkglbiakjnfjaaDoor
