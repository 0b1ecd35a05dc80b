/- slices.IndexFunc and slices.ContainsFunc with Make's closure. -/
import Derived.Test.YtiaklkfdgnhonaaDoorFull
import Derived.Test.YtiaklkfdgnhonaaDoorTagsP
namespace Go.Proofs.YtiaklkfdgnhonaaDoor
open Go.Shelf Go.RowKit Go.Lib Go.Sort Go.Maps
set_option linter.unusedVariables false

theorem MksAt.below {w w' : World} {B : Nat} {A : Option Addr} {l : List Mk} (h : MksAt w B A l) (hb : Below B w w') : MksAt w' B A l := RowIn.below h hb

set_option maxHeartbeats 1000000 in
set_option maxRecDepth 100000 in
theorem idxf_any (w : World) (B : Nat) (A : Option Addr) (l : List Mk) (n c : Nat) (cb tb mb cn : Nat) (cp : Cp) (M : Lit → Option Value) (f : Mk → Nat) (hn : l.length = n) (hl : MksAt w B A l) (hB : B ≤ w.heap.size) (hb : n ≤ 1000000)
    (hC : Caught w cb tb mb cn cp M) (hM : CntIs M f) (hs : ∀ m ∈ l, m.name.size ≤ maxLen) :
    Calls Tryd.prog 39 #[.slice A n c, .func (.func 27) #[] #[.pointer (some ⟨cb, 0, none⟩), .pointer (some ⟨tb, 0, none⟩)]] w fun e w' => ∃ r : Int, e = .returned (.int .i64 r) ∧ (0 ≤ r ↔ l.any (fullP cp f) = true) ∧ Below w.heap.size w w' := by
  have HN := Lib.hid hn
  have HS := Lib.hid hs
  have HM := Lib.hid hM
  have HC := Lib.hid hC
  clear hn hs hM hC
  go_enter Tryd.func39, Tryd.ntmps39
  go_wp2_with fail
  go_loopw [8] (fun i wr => ∃ k : Nat, k ≤ n ∧ i = .int .i64 k ∧ Hid (∀ j y, j < k → l[j]? = some y → fullP cp f y = false) ∧ Below w.heap.size w wr) (fun i _ => n - (intOf i).toNat)
  case atStart => exact ⟨0, Nat.zero_le _, rfl, Lib.hid (fun j y hj => by omega), Below.refl _ _⟩
  case round =>
    obtain ⟨k, hk, rfl, hno, hbw⟩ := hrel
    by_cases hlt : k < n
    · obtain ⟨y, hy⟩ : ∃ y, l[k]? = some y := ⟨l[k]'(by rw [HN.out]; exact hlt), List.getElem?_eq_getElem _⟩
      have hl2 : MksAt wr B A l := hl.below (hbw.mono hB)
      obtain ⟨g, o, rfl, _, hc⟩ := hl2.at (by rw [HN.out]; omega)
      obtain ⟨e0, e1⟩ := hc k y hy
      have HY := Lib.hid hy
      have hys := HS.out y (List.mem_of_getElem? hy)
      have HCw := Lib.hid (HC.out.below hbw)
      have HF := Lib.hid (full_any wr cb tb mb cn cp M f y HCw.out HM.out hys)
      have hk8 : (k : Int) < (n : Int) := by omega
      have hk9 : (0 : Int) ≤ (k : Int) := by omega
      obtain ⟨yt, yn⟩ := y
      dsimp only at e0 e1
      clear hy hc hl2 hys
      go_wp2_with fail
      refine HF.out.mono ?_
      rintro e w1 ⟨rfl, hb1⟩
      have hb2 : Below w.heap.size w w1 := hbw.trans (hb1.mono hbw.size)
      clear HF
      cases he : fullP cp f ⟨yt, yn⟩
      · have HE := Lib.hid he
        clear he
        go_wp2_with fail
        go_roundw
        case rel =>
          refine ⟨k + 1, by omega, by go_num, Lib.hid (fun j z hj hz => ?_), hb2⟩
          by_cases e : j = k
          · subst e
            rw [HY.out] at hz
            cases hz
            exact HE.out
          · exact hno.out j z (by omega) hz
        case measure => simp [intOf]; omega
      · have HE := Lib.hid he
        clear he
        go_wp2_with fail
        go_ret
        refine ⟨(k : Int), rfl, ⟨fun _ => ?_, fun _ => by omega⟩, hb2⟩
        exact List.any_eq_true.2 ⟨_, List.mem_of_getElem? HY.out, HE.out⟩
    · go_wp2_with fail
      go_ret
      refine ⟨-1, rfl, ⟨fun h => (by omega), fun h => ?_⟩, hbw⟩
      obtain ⟨y, hy, hf⟩ := List.any_eq_true.1 h
      obtain ⟨j, hj⟩ := List.mem_iff_getElem?.1 hy
      rw [hno.out j _ (by have := (List.getElem?_eq_some_iff.1 hj).1; rw [HN.out] at this; omega) hj] at hf
      cases hf

set_option maxHeartbeats 1000000 in
set_option maxRecDepth 100000 in
theorem conf_any (w : World) (B : Nat) (A : Option Addr) (l : List Mk) (n c : Nat) (cb tb mb cn : Nat) (cp : Cp) (M : Lit → Option Value) (f : Mk → Nat) (hn : l.length = n) (hl : MksAt w B A l) (hB : B ≤ w.heap.size) (hb : n ≤ 1000000)
    (hC : Caught w cb tb mb cn cp M) (hM : CntIs M f) (hs : ∀ m ∈ l, m.name.size ≤ maxLen) :
    Calls Tryd.prog 29 #[.slice A n c, .func (.func 27) #[] #[.pointer (some ⟨cb, 0, none⟩), .pointer (some ⟨tb, 0, none⟩)]] w fun e w' => e = .returned (.bool (l.any (fullP cp f))) ∧ Below w.heap.size w w' := by
  have HI := Lib.hid (idxf_any w B A l n c cb tb mb cn cp M f hn hl hB hb hC hM hs)
  clear hl hn hC hM hs
  go_enter Tryd.func29, Tryd.ntmps29
  go_wp2_with fail
  refine HI.out.mono ?_
  rintro e w1 ⟨r, rfl, hr, hb1⟩
  have hd : decide (0 ≤ r) = l.any (fullP cp f) := by
    rw [Bool.eq_iff_iff, decide_eq_true_eq]; exact hr
  have HD := Lib.hid hd
  clear hd hr HI
  go_wp2_with fail
  go_ret
  refine ⟨ret_bool ?_, hb1⟩
  rw [← HD.out]

end Go.Proofs.YtiaklkfdgnhonaaDoor
