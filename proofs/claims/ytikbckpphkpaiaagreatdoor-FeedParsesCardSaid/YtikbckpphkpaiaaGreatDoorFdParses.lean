/- FeedParses: the walk. -/
import Derived.Test.YtikbckpphkpaiaaGreatDoorRParse
import Derived.Test.YtikbckpphkpaiaaGreatDoorOpenF
namespace Go.Proofs.YtikbckpphkpaiaaGreatDoor
open Go.Shelf Go.RowKit Go.Maps
set_option linter.unusedVariables false

set_option maxHeartbeats 8000000 in
set_option maxRecDepth 100000 in
theorem feedParses_walk (s : ByteArray) (w : World) (hsz : s.size ≤ 140737488355328) (hg : GlobAt w) (ht : TabAt w) (he : ErrAt w) :
    Calls Tryz.prog 3 #[.string s] w fun e w' => e = .returned (.bool true) ∧ Below w.heap.size w w' := by
  have HG := Lib.hid hg
  have HT := Lib.hid ht
  have HE := Lib.hid he
  have HLV := Lib.hid (lives_any w hg)
  clear hg ht he
  go_enter Tryz.func3, Tryz.ntmps3
  go_wp2_with fail
  refine HLV.out.mono ?_
  rintro e w1 ⟨rfl, hb1⟩
  have HB1 := Lib.hid hb1
  clear hb1 HLV
  by_cases h3000 : 3000 < s.size
  · have q3 : (3000 : Int) < (s.size : Int) := by omega
    go_wp2_with fail
    go_ret
    exact ⟨rfl, HB1.out⟩
  have q3 : ¬ (3000 : Int) < (s.size : Int) := by omega
  have HP := Lib.hid (parse_any s w1 (by omega) (HG.out.keep HB1.out (Nat.le_refl _)) (HT.out.keep HB1.out) (HE.out.keep HB1.out))
  go_wp2_with fail
  refine HP.out.mono ?_
  rintro e w2 ⟨A1, c1, xs, n1, k1, er1, rfl, hn1, hp1, hg1, hr1, _, hn14, hb2⟩
  have HB2 : Hid (Below w.heap.size w w2) := Lib.hid (HB1.out.trans (hb2.mono HB1.out.size))
  have HN1 := Lib.hid hn1
  have HP1 := Lib.hid hp1
  have HG1 := Lib.hid hg1
  have HR1 := Lib.hid hr1
  have HQ := Lib.hid (rparse_any s w2 (by omega))
  clear hn1 hp1 hg1 hr1 hb2 HP
  go_wp2_with fail
  refine HQ.out.mono ?_
  rintro e w3 ⟨A2, c2, ys, n2, k2, er2, rfl, hn2, hp2, hr2, _, hn24, hb3⟩
  have HB3 : Hid (Below w.heap.size w w3) := Lib.hid (HB2.out.trans (hb3.mono HB2.out.size))
  rw [HP1.out] at hp2
  simp only [Prod.mk.injEq] at hp2
  obtain ⟨hxy, rfl, rfl⟩ := hp2
  obtain rfl : n1 = n2 := by rw [← HN1.out, ← hn2, ← hxy, List.length_map]
  have HXY := Lib.hid hxy
  have HR13 : Hid (RowIn w3 w2.heap.size 7 A1 n1 (xs.flatMap itC)) := Lib.hid (HR1.out.below hb3)
  have HR2 := Lib.hid hr2
  have HZ23 : Hid (w2.heap.size ≤ w3.heap.size) := Lib.hid hb3.size
  clear hxy hn2 hr2 hb3 HQ
  go_wp2_with fail
  go_loopw [9] (fun i wr => ∃ k : Nat, k ≤ n1 ∧ i = .int .i64 k ∧ wr = w3) (fun i _ => n1 - (intOf i).toNat)
  case atStart => exact ⟨0, Nat.zero_le _, rfl, rfl⟩
  case round =>
    obtain ⟨k, hk, rfl, rfl⟩ := hrel
    have hk9 : (0 : Int) ≤ (k : Int) := by omega
    by_cases hlt : k < n1
    · obtain ⟨x, hx⟩ : ∃ x, xs[k]? = some x := ⟨xs[k]'(by rw [HN1.out]; exact hlt), List.getElem?_eq_getElem _⟩
      obtain ⟨g, o, rfl, _, hc⟩ := it_at HR13.out (by omega)
      obtain ⟨_, _, _, _, _, e5, e6⟩ := hc k x hx
      obtain ⟨hbn, hls, _⟩ := HG1.out x (List.mem_of_getElem? hx)
      rw [hbn] at e5
      rw [hls] at e6
      have hk8 : (k : Int) < (n1 : Int) := by omega
      clear hc hx hbn hls
      go_wp2_with fail
      go_roundw
      case rel => exact ⟨k + 1, by omega, by go_num, by first | rfl | trivial⟩
      case measure => simp [intOf]; omega
    · obtain rfl : n1 = k := by omega
      have HRL := Lib.hid (rowsl_any wr w2.heap.size A1 xs n1 c1 HN1.out HR13.out HZ23.out (by omega))
      rw [HXY.out] at HRL
      go_wp2_with fail
      refine HRL.out.mono ?_
      rintro e wd ⟨Ad, cd, rfl, hrd, _, hbd⟩
      have HBd : Hid (Below w.heap.size w wd) := Lib.hid (HB3.out.trans (hbd.mono HB3.out.size))
      have HSM := Lib.hid (rsame_any wd wd.heap.size wr.heap.size Ad A2 ys n1 cd c2 (by rw [← HXY.out, List.length_map]; exact HN1.out) hrd (HR2.out.below hbd) (by omega))
      clear hrd hbd HRL
      go_wp2_with fail
      refine HSM.out.mono ?_
      rintro e we ⟨rfl, hbe⟩
      have HBe : Hid (Below w.heap.size w we) := Lib.hid (HBd.out.trans (hbe.mono HBd.out.size))
      clear hbe HSM
      go_wp2_with fail
      go_ret
      exact ⟨rfl, HBe.out⟩

end Go.Proofs.YtikbckpphkpaiaaGreatDoor
