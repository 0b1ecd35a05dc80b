/- SlateRanks: the walk. -/
import Derived.Test.YtiaklkfdgnhonaaDoorOpenC
namespace Go.Proofs.YtiaklkfdgnhonaaDoor
open Go.Shelf Go.RowKit Go.Lib Go.Sort Go.Maps
set_option linter.unusedVariables false

/-- What is asked of a slice of choices that comes in. -/
structure ChArg (w : World) (A : Option Addr) (n c : Nat) (l : List Ch) : Prop where
  len : l.length = n
  at_ : ChsAt w w.heap.size A l
  few : n ≤ 140737488355328
  nil : A = none → c = 0
  size : ∀ y ∈ l, y.item.size ≤ 140737488355328 ∧ y.maker.size ≤ 140737488355328 ∧ y.tags.size ≤ 140737488355328
theorem ChArg.long {w : World} {A : Option Addr} {n c : Nat} {l : List Ch} (h : ChArg w A n c l) :
    Calls Tryd.prog 11 #[.slice A n c] w fun e w' => ∃ r, e = .returned (.bool r) ∧ (r = false → Short l) ∧ Below w.heap.size w w' :=
  long_any w w.heap.size A l n c h.len h.at_ (Nat.le_refl _) h.few h.size

set_option maxHeartbeats 1000000 in
set_option maxRecDepth 100000 in
theorem slateRanks_walk (A : Option Addr) (n c : Nat) (l : List Ch) (w : World) (ha : ChArg w A n c l) (hg : GlobAt w) :
    Calls Tryd.prog 3 #[.slice A n c] w fun e w' => e = .returned (.bool true) ∧ Below w.heap.size w w' := by
  have HA := Lib.hid ha
  have HG := Lib.hid hg
  clear ha hg
  go_enter Tryd.func3, Tryd.ntmps3
  go_wp2_with fail
  refine HA.out.long.mono ?_
  rintro e w1 ⟨r, rfl, hr, hb1⟩
  cases r
  · have hs := hr rfl
    have hn40 : n ≤ 40 := by rw [← HA.out.len]; exact hs.1
    have HS := Lib.hid hs
    have hl1 : ChsAt w1 w.heap.size A l := HA.out.at_.below hb1
    have HR := Lib.hid (rank_any w1 w.heap.size A l n c HA.out.len hl1 hb1.size HA.out.nil (by omega) hs.okc)
    clear hr hs
    go_wp2_with fail
    refine HR.out.mono ?_
    rintro e w2 ⟨v2, rfl, hown2, hb2⟩
    obtain ⟨A2, c2, rfl⟩ := own_shape hown2
    have hl2 : ChsAt w2 w.heap.size A l := hl1.below (hb2.mono hb1.size)
    have HR2 := Lib.hid (refrank_any w2 w.heap.size A l n c HA.out.len hl2 (Nat.le_trans hb1.size hb2.size) (by omega))
    have hrl : (rankP l).length ≤ n := by rw [← HA.out.len]; exact rankP_len l
    clear HR
    go_wp2_with fail
    refine HR2.out.mono ?_
    rintro e w3 ⟨v3, rfl, hown3, hb3⟩
    obtain ⟨A3, c3, rfl⟩ := own_shape hown3
    have hs2 : ChsAt w3 w3.heap.size A2 (rankP l) := RowIn.more (RowIn.below (RowIn.of_own hown2) hb3) hb3.size
    have HSM := Lib.hid (same_any w3 w3.heap.size A2 A3 (rankP l) (rankP l) (rankP l).length (rankP l).length c2 c3 rfl rfl hs2 (RowIn.of_own hown3) (by omega) (by omega))
    have HB3 : Hid (Below w.heap.size w w3) := Lib.hid ((hb1.trans (hb2.mono hb1.size)).trans (hb3.mono (Nat.le_trans hb1.size hb2.size)))
    clear HR2 hown2 hown3 hs2
    go_wp2_with fail
    refine HSM.out.mono ?_
    rintro e w4 ⟨r, rfl, hr, q, rfl⟩
    obtain rfl : r = true := (by simpa using hr)
    have HW := Lib.hid (awake_any (w3.drewN q) ((HG.out.keep HB3.out (Nat.le_refl _)).drewN q))
    clear HSM hr
    go_wp2_with fail
    refine HW.out.mono ?_
    rintro e w5 ⟨rfl, hb5⟩
    have HB5 : Hid (Below w.heap.size w w5) := Lib.hid ((below_drewN HB3.out q).trans (hb5.mono HB3.out.size))
    clear hb5 HW
    go_wp2_with fail
    go_ret
    exact ⟨rfl, HB5.out⟩
  · have HW := Lib.hid (awake_any w1 (HG.out.keep hb1 (Nat.le_refl _)))
    clear hr
    go_wp2_with fail
    refine HW.out.mono ?_
    rintro e w5 ⟨rfl, hb5⟩
    have HB5 : Hid (Below w.heap.size w w5) := Lib.hid (hb1.trans (hb5.mono hb1.size))
    clear hb5 HW
    go_wp2_with fail
    go_ret
    exact ⟨rfl, HB5.out⟩

end Go.Proofs.YtiaklkfdgnhonaaDoor
