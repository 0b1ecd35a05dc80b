/- slices.SortStableFunc of events: all. -/
import Derived.Test.YtdcinodbgbkobaaGreatDoorSbM
import Derived.Test.YtdcinodbgbkobaaGreatDoorLaySb
import Derived.Shelf.SlSortCmp.InsertionK
namespace Go.Proofs.YtdcinodbgbkobaaGreatDoor
open Go.Shelf Go.RowKit Go.Lib Go.Sort
set_option linter.unusedVariables false

abbrev PsOf (a b : Nat) (d d' : Array Ev) : Prop := PermIn a b d d' ∧ SortedIn (ltOf cmpE) a b d'
set_option maxHeartbeats 1000000 in
set_option maxRecDepth 100000 in
/-- slices.insertionSortCmpFunc of events. -/
theorem ins_any (w0 : World) (blk off n : Nat) (d0 : Array Ev) (R : SbRow w0 blk off n d0) (cap a b : Nat) (d : Array Ev) (W : World) (hab : a ≤ b) (hb : b ≤ n) (h : SbIn w0 blk off n d W) :
    Calls Tryz.prog 62 #[.slice (some ⟨blk, off, none⟩) n cap, .int .i64 a, .int .i64 b, .func (.func 18) #[] #[]] W fun e w' => e = .returned (.tuple #[]) ∧ ∃ d', PsOf a b d d' ∧ SbIn w0 blk off n d' w' := by
  have hs := h.size
  have hf := R.few
  have hp := insertionSort_holds cE_swo d a b hab (by rw [hs]; exact hb)
  have H := AnyQ.insertionSortCmpFunc Tryz.insEv 8 (fun w => Tryz.isAgg41 w) (fun w => Tryz.sizeOf41 w) evC evC_len evC_1 cmpE 18 #[] blk off cap a b d W (fun _ _ => rfl) (cmpE_lays blk off d.size W) (h.holds R) (h.sw.lt R.hblk) hab (by rw [hs]; exact hb) (by rw [hs]; omega)
  rw [hs] at H
  refine H.mono ?_
  rintro e w' ⟨rfl, q, os, rfl⟩
  have hz : (Sort.insertionSort (ltOf cmpE) d a b).size = d.size := hp.1.1
  exact ⟨rfl, _, hp, h.sw.on R.hblk q _ os hz, by rw [hz, hs]⟩

theorem PsOf.up {n a b : Nat} {d0 d d' : Array Ev} (h : PermIn 0 n d0 d) (hb : b ≤ n) (hs : d.size = n) (h' : PermIn a b d d') : PermIn 0 n d0 d' :=
  permIn_trans d0 d d' 0 n h (permIn_mono d d' a b 0 n (Nat.zero_le _) hb (by omega) h')

set_option maxHeartbeats 8000000 in
set_option maxRecDepth 100000 in
/-- slices.stableCmpFunc of events. -/
theorem stable_any (w0 : World) (blk off n : Nat) (d0 : Array Ev) (R : SbRow w0 blk off n d0) (cap : Nat) (d : Array Ev) (W : World) (h : SbIn w0 blk off n d W) :
    Calls Tryz.prog 43 #[.slice (some ⟨blk, off, none⟩) n cap, .int .i64 n, .func (.func 18) #[] #[]] W fun e w' => e = .returned (.tuple #[]) ∧ ∃ d', PsOf 0 n d d' ∧ SbIn w0 blk off n d' w' := by
  have HR := Lib.hid R
  have HH := Lib.hid h
  have hn := R.few
  clear R h
  go_enter Tryz.func43, Tryz.ntmps43
  go_wp2_with fail
  go_loopw [7, 8] (fun vi vj wr => ∃ (j p : Nat) (dk : Array Ev), Hid (p = j * 20) ∧ p ≤ n ∧ vi = .int .i64 p ∧ vj = .int .i64 ((p + 20 : Nat) : Int) ∧ Hid (BlocksTo (ltOf cmpE) 20 j dk ∧ PermIn 0 n d dk) ∧ Hid (SbIn w0 blk off n dk wr)) (fun vi _ _ => n - (intOf vi).toNat)
  case atStart => exact ⟨0, 0, d, Lib.hid (by omega), by omega, rfl, rfl, Lib.hid ⟨BlocksTo.start _ _ _, permIn_refl _ _ _⟩, HH⟩
  case round =>
    obtain ⟨j, p, dk, hp, hpn, rfl, rfl, hbl, hw⟩ := hrel
    by_cases hlt : p + 20 ≤ n
    · have hlt8 : ((p + 20 : Nat) : Int) ≤ (n : Int) := by omega
      have e2 : ((p + 20 : Nat) : Int) + 20 = ((p + 20 + 20 : Nat) : Int) := by omega
      have wq : IntKind.i64.wrap ((p + 20 + 20 : Nat) : Int) = ((p + 20 + 20 : Nat) : Int) := by rw [IntKind.wrap_i64]; omega
      have HC := Lib.hid (ins_any w0 blk off n d0 HR.out cap p (p + 20) dk wr (by omega) hlt hw.out)
      go_wp2_with fail
      refine HC.out.mono ?_
      rintro e w1 ⟨rfl, d1, hps, hw1⟩
      have HNX : Hid (BlocksTo (ltOf cmpE) 20 (j + 1) d1 ∧ PermIn 0 n d d1) := Lib.hid ⟨by have := hp.out; rw [this] at hps; exact hbl.out.1.next hps.1 hps.2, PsOf.up hbl.out.2 hlt hw.out.size hps.1⟩
      have HW1 := Lib.hid hw1
      clear HC hps hw1
      go_wp2_with fail
      go_roundw
      case rel => exact ⟨j + 1, p + 20, d1, Lib.hid (by have := hp.out; omega), hlt, rfl, by first | rfl | go_num, HNX, HW1⟩
      case measure => simp [intOf]; omega
    · have hlt8 : ¬ ((p + 20 : Nat) : Int) ≤ (n : Int) := by omega
      have HC := Lib.hid (ins_any w0 blk off n d0 HR.out cap p n dk wr hpn (Nat.le_refl _) hw.out)
      go_wp2_with fail
      refine HC.out.mono ?_
      rintro e w1 ⟨rfl, d1, hps, hw1⟩
      have HB : Hid (Blocks (ltOf cmpE) 20 n d1 ∧ PermIn 0 n d d1) := Lib.hid ⟨by have := hp.out; rw [this] at hps; exact hbl.out.1.done (by omega) hps.1 hps.2, PsOf.up hbl.out.2 (Nat.le_refl _) hw.out.size hps.1⟩
      have HW1 := Lib.hid hw1
      clear HC hps hw1 hbl hw hp hpn hlt hlt8
      go_wp2_with fail
      go_loopw [6] (fun vs wr => ∃ (s : Nat) (dk : Array Ev), 0 < s ∧ s ≤ 2000020 ∧ vs = .int .i64 s ∧ Hid (Blocks (ltOf cmpE) s n dk ∧ PermIn 0 n d dk) ∧ Hid (SbIn w0 blk off n dk wr)) (fun vs _ => n - (intOf vs).toNat)
      case atStart => exact ⟨20, d1, by omega, by omega, rfl, HB, HW1⟩
      case round =>
        clear HB HW1
        obtain ⟨s, ds, hs0, hs9, rfl, hbl, hw⟩ := hrel
        by_cases hsn : s < n
        · have hsn8 : (s : Int) < (n : Int) := by omega
          obtain ⟨wo, hwo⟩ : ∃ wo, wo = wr := ⟨_, rfl⟩
          subst hwo
          have HBL := hbl
          have HWS := hw
          clear hbl hw
          obtain ⟨t, ht⟩ : ∃ t, 2 * s = t := ⟨_, rfl⟩
          have f1 : 2 * (s : Int) = (t : Int) := by omega
          have f2 : (s : Int) * 2 = (t : Int) := by omega
          have wt : IntKind.i64.wrap (t : Int) = (t : Int) := by rw [IntKind.wrap_i64]; omega
          have HT := Lib.hid ht
          have htb : 0 < t ∧ t ≤ 4000040 := by omega
          clear ht
          go_wp2_with fail
          go_loopw [7, 8] (fun vi vj wr => ∃ (j p q : Nat) (dk : Array Ev), Hid (p = j * (2 * s)) ∧ p ≤ n ∧ q = p + t ∧ vi = .int .i64 p ∧ vj = .int .i64 q ∧ Hid (Merged (ltOf cmpE) s j n dk ∧ PermIn 0 n d dk) ∧ Hid (SbIn w0 blk off n dk wr)) (fun vi _ _ => n - (intOf vi).toNat)
          case atStart => exact ⟨0, 0, t, ds, Lib.hid (by simp), by omega, by omega, rfl, rfl, Lib.hid ⟨Merged.start HBL.out.1, HBL.out.2⟩, HWS⟩
          case round =>
            clear HBL HWS
            obtain ⟨j, p, q, dk, hp, hpn, hq, rfl, rfl, hmg, hw⟩ := hrel
            have ht := HT.out
            obtain ⟨m, hm⟩ : ∃ m, p + s = m := ⟨_, rfl⟩
            have e1 : (p : Int) + (s : Int) = (m : Int) := by omega
            have w1 : IntKind.i64.wrap (m : Int) = (m : Int) := by rw [IntKind.wrap_i64]; omega
            have HM := Lib.hid hm
            have HQ := Lib.hid hq
            by_cases hlt : q ≤ n
            · have hlt8 : (q : Int) ≤ (n : Int) := by omega
              obtain ⟨q2, hq2⟩ : ∃ q2, q + t = q2 := ⟨_, rfl⟩
              have e2 : (q : Int) + (t : Int) = (q2 : Int) := by omega
              have w2 : IntKind.i64.wrap (q2 : Int) = (q2 : Int) := by rw [IntKind.wrap_i64]; omega
              have HC : Hid _ := Lib.hid (sym_any w0 blk off n d0 HR.out cap (n + 1) p m q dk wr (by omega) (by omega) (by omega) hlt hw.out
                (by have h2 := hmg.out.1.left (by rw [← hp.out]; omega); rw [← hp.out] at h2; rwa [hm] at h2)
                (by have h2 := hmg.out.1.right; rw [← hp.out] at h2; rwa [Nat.min_eq_left (by omega), show p + s + s = q by omega, hm] at h2))
              have HQ2 := Lib.hid hq2
              clear hm hq hq2 ht
              go_wp2_with fail
              refine HC.out.mono ?_
              rintro e w3 ⟨rfl, d1, hps, hw1⟩
              have HNX : Hid (Merged (ltOf cmpE) s (j + 1) n d1 ∧ PermIn 0 n d d1) := Lib.hid ⟨by have e := HQ.out; rw [hp.out, ← HT.out] at e; rw [e, hp.out] at hps; exact hmg.out.1.next hps.1 hps.2, PsOf.up hmg.out.2 hlt hw.out.size hps.1⟩
              have HW1 := Lib.hid hw1
              clear HC hps hw1
              go_wp2_with fail
              go_roundw
              case rel => exact ⟨j + 1, q, q2, d1, Lib.hid (by have := hp.out; have := HQ.out; have := HT.out; rw [Nat.add_mul, Nat.one_mul]; omega), hlt, HQ2.out.symm, rfl, rfl, HNX, HW1⟩
              case measure => have := HQ.out; simp [intOf]; omega
            · have hlt8 : ¬ (q : Int) ≤ (n : Int) := by omega
              by_cases hmn : m < n
              · have hmn8 : (m : Int) < (n : Int) := by omega
                have HC : Hid _ := Lib.hid (sym_any w0 blk off n d0 HR.out cap (n + 1) p m n dk wr (by omega) (by omega) (by omega) (Nat.le_refl _) hw.out
                  (by have h2 := hmg.out.1.left (by rw [← hp.out]; omega); rw [← hp.out] at h2; rwa [hm] at h2)
                  (by have h2 := hmg.out.1.right; rw [← hp.out] at h2; rwa [Nat.min_eq_right (by omega), hm] at h2))
                clear hm hq ht
                go_wp2_with fail
                refine HC.out.mono ?_
                rintro e w3 ⟨rfl, d1, hps, hw1⟩
                have HNX : Hid (Blocks (ltOf cmpE) t n d1 ∧ PermIn 0 n d d1) := Lib.hid ⟨by rw [hp.out] at hps; rw [← HT.out]; exact hmg.out.1.done (by rw [← hp.out]; have := HQ.out; have := HT.out; omega) hps.1 hps.2, PsOf.up hmg.out.2 (Nat.le_refl _) hw.out.size hps.1⟩
                have HW1 := Lib.hid hw1
                clear HC hps hw1
                go_wp2_with fail
                go_roundw
                case rel => exact ⟨t, d1, htb.1, by have := HT.out; omega, rfl, HNX, HW1⟩
                case measure => have := HT.out; simp [intOf]; omega
              · have hmn8 : ¬ (m : Int) < (n : Int) := by omega
                have HNX : Hid (Blocks (ltOf cmpE) t n dk ∧ PermIn 0 n d dk) := Lib.hid ⟨by rw [← ht]; exact hmg.out.1.done (by rw [← hp.out]; omega) (permIn_refl _ _ _) (hmg.out.1.short (by rw [← hp.out]; omega)), hmg.out.2⟩
                clear hm hq ht
                go_wp2_with fail
                go_roundw
                case rel => exact ⟨t, dk, htb.1, by have := HT.out; omega, rfl, HNX, hw⟩
                case measure => have := HT.out; simp [intOf]; omega
        · have hsn8 : ¬ (s : Int) < (n : Int) := by omega
          have HF : Hid (PsOf 0 n d ds) := Lib.hid ⟨hbl.out.2, hbl.out.1.all (by omega)⟩
          go_wp2_with fail
          go_end0
          exact ⟨rfl, ds, HF.out, hw.out⟩
end Go.Proofs.YtdcinodbgbkobaaGreatDoor
