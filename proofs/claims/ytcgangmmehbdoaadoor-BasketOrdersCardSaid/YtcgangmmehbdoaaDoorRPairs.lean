/- The document's Pairs: the walk. -/
import Derived.Test.YtcgangmmehbdoaaDoorRPairsP
namespace Go.Proofs.YtcgangmmehbdoaaDoor
open Go.Shelf Go.RowKit Go.Maps
set_option linter.unusedVariables false

theorem one_pr (w : World) (x : Pr) (t : TypeId) : RowIn (w.alloc (.cells #[.string x.1.1, .string x.1.2, .int .i64 x.2] t)) (w.heap.size + 1) 3 (some ⟨w.heap.size, 0, none⟩) 1 (prC x) := by
  refine ⟨rfl, Or.inr ⟨w.heap.size, 0, rfl, by omega, fun j u hu => ?_⟩⟩
  rw [(Blk.new w t _).cell]
  rw [← hu, Nat.zero_add]
  simp [prC]
theorem flatP_snoc (l : List Pr) (x : Pr) : (l ++ [x]).flatMap prC = l.flatMap prC ++ prC x := by rw [List.flatMap_append]; simp
theorem cell_lt2 {w : World} {a : Addr} {v : Value} (h : w.cell? a = some v) : a.block < w.heap.size := by
  rcases Nat.lt_or_ge a.block w.heap.size with h1 | h1
  · exact h1
  · simp [World.cell?, Array.getElem?_eq_none h1] at h
theorem prs_at {w : World} {B : Nat} {A : Option Addr} {l : List Pr} {n : Nat} (h : RowIn w B 3 A n (l.flatMap prC)) (hn : 0 < n) : ∃ g o, A = some ⟨g, o, none⟩ ∧ g < B ∧ ∀ (k : Nat) x, l[k]? = some x → w.cell? ⟨g, o + k * 3, none⟩ = some (.string x.1.1) ∧ w.cell? ⟨g, o + k * 3 + 1, none⟩ = some (.string x.1.2) ∧ w.cell? ⟨g, o + k * 3 + 2, none⟩ = some (.int .i64 x.2) := by
  obtain ⟨g, o, h1, h2, h3⟩ := h.at hn
  refine ⟨g, o, h1, h2, fun k x hx => ⟨?_, ?_, ?_⟩⟩
  · exact h3 (k * 3) _ (by have := flat_get prC 3 prC_len _ k 0 x hx (by omega); simpa [prC] using this)
  · rw [Nat.add_assoc]; exact h3 (k * 3 + 1) _ (by have := flat_get prC 3 prC_len _ k 1 x hx (by omega); simpa [prC] using this)
  · rw [Nat.add_assoc]; exact h3 (k * 3 + 2) _ (by have := flat_get prC 3 prC_len _ k 2 x hx (by omega); simpa [prC] using this)

set_option maxHeartbeats 8000000 in
set_option maxRecDepth 100000 in
theorem rpairs_any (w : World) (base : Nat) (A : Option Addr) (L : List HasL) (n c : Nat) (fl : Int) (I : List ByteArray) (hn : L.length = n) (hl : HssIn w base (.slice A n c) L) (hb : n ≤ 1000000) (hlb : LenB L) (hI : ∀ hs ∈ L, ∀ h ∈ hs, h.1 ∈ I) (hIl : I.length ≤ 100) :
    Calls Tryd.prog 17 #[.slice A n c, .int .i64 fl] w fun e w' => ∃ (A' : Option Addr) (n' c' : Nat) (out : List Pr), e = .returned (.slice A' n' c') ∧ out.length = n' ∧ n' ≤ 10000 ∧ w'.ownsRow w.heap.size 46 3 (.slice A' n' c') n' (out.flatMap prC) ∧ IsPairs (rC L) fl out ∧ Below w.heap.size w w' := by
  have HN := Lib.hid hn
  have hnb := hb
  have HL : Hid (∀ W, Below w.heap.size w W → HssIn W base (.slice A n c) L) := Lib.hid (fun W hW => hl.below hW)
  have HLB := Lib.hid hlb
  have HI := Lib.hid hI
  obtain ⟨w1, hw1⟩ : ∃ w1, w.alloc (.cells #[] 9) = w1 := ⟨_, rfl⟩
  have HO1 : Hid (w1.ownsRow w.heap.size 9 1 (.slice (some ⟨w.heap.size, 0, none⟩) 0 0) 0 []) := Lib.hid (by rw [← hw1]; exact own_empty _ _ _)
  have HB1 : Hid (Below w.heap.size w w1) := Lib.hid (by rw [← hw1]; exact (Below.refl _ _).alloc (Nat.le_refl _) _)
  have HPUTI : Hid (∀ (W : World) (its : List ByteArray) (A2 : Option Addr) (c2 : Nat) (x : ByteArray), its.length ≤ 100 → W.ownsRow w.heap.size 9 1 (.slice A2 its.length c2) its.length (its.map .string) → w.heap.size ≤ W.heap.size → its.Pairwise ltN → Calls Tryd.prog 27 #[.slice A2 its.length c2, .string x] W fun e w' => ∃ (A' : Option Addr) (c' : Nat) (out : List ByteArray), e = .returned (.slice A' out.length c') ∧ w'.ownsRow w.heap.size 9 1 (.slice A' out.length c') out.length (out.map .string) ∧ (out.Pairwise ltN ∧ ∀ y, y ∈ out ↔ y ∈ its ∨ y = x) ∧ out.length ≤ its.length + 1 ∧ Below W.heap.size W w') := Lib.hid (fun W its A2 c2 x h1 h2 h3 h4 => rput_any W A2 its its.length c2 x w.heap.size rfl h2 h3 h4 (by omega))
  obtain ⟨i0, hi0, hz0, hz1, hz2⟩ := info_parts pr_info
  clear hn hl hlb hI
  go_enter Tryd.func17, Tryd.ntmps17
  go_wp2_with fail
  clear hw1
  go_loopw [5, 6] (fun v i wr => ∃ (k : Nat) (A2 : Option Addr) (c2 : Nat) (its : List ByteArray), k ≤ n ∧ i = .int .i64 k ∧ v = .slice A2 its.length c2 ∧ Hid (ItTo (L.take k) its) ∧ Hid (wr.ownsRow w.heap.size 9 1 (.slice A2 its.length c2) its.length (its.map .string)) ∧ Hid (Below w.heap.size w wr)) (fun _ i _ => n - (intOf i).toNat)
  case atStart => exact ⟨0, _, _, [], Nat.zero_le _, rfl, rfl, Lib.hid ItTo.start, HO1, HB1⟩
  case round =>
    clear HO1 HB1
    obtain ⟨k, A2, c2, its, hk, rfl, rfl, hit, hrow, hbw⟩ := hrel
    obtain ⟨wo, rfl⟩ : ∃ wo : World, wo = wr := ⟨_, rfl⟩
    have hwz := hbw.out.size
    by_cases hlt : k < n
    · obtain ⟨hs, hh⟩ : ∃ h, L[k]? = some h := ⟨L[k]'(by rw [HN.out]; exact hlt), List.getElem?_eq_getElem _⟩
      have HH := Lib.hid hh
      have HLk : Hid (hs.length ≤ 1000000) := Lib.hid (HLB.out hs (List.mem_of_getElem? hh))
      obtain ⟨q, hq⟩ : ∃ q, hs.length = q := ⟨_, rfl⟩
      have HQ := Lib.hid hq
      have hq6 : q ≤ 1000000 := by rw [← hq]; exact HLk.out
      have HIT : Hid (ItTo (L.take k ++ [hs.take 0]) its) := Lib.hid hit.out.open_
      have HLT : Hid (L.take k ++ [hs] = L.take (k + 1)) := Lib.hid (by rw [List.take_add_one, hh]; rfl)
      have HAT : Hid (∃ (g : Nat) (A' : Option Addr) (c' : Nat), A = some ⟨g, 0, none⟩ ∧ ∀ W, Below wo.heap.size wo W → World.cell? W ⟨g, k, none⟩ = some (.slice A' q c') ∧ RowIn W wo.heap.size 2 A' q (hs.flatMap hasC)) := Lib.hid (by
        obtain ⟨g, A', c', h1, h2, h3⟩ := (HL.out wo hbw.out).at HN.out hh
        have hg : g < wo.heap.size := cell_lt2 h2
        rw [hq] at h2 h3
        exact ⟨g, A', c', h1, fun W hW => ⟨(hW.cell (p := ⟨g, k, none⟩) hg).trans h2, (RowIn.of_own h3).below hW⟩⟩)
      obtain ⟨g, A', c', hA, hat⟩ := HAT.out
      have HAW := Lib.hid hat
      subst hA
      have hk8 : (k : Int) < (n : Int) := by omega
      have hk9 : (0 : Int) ≤ (k : Int) := by omega
      have hB0 : Hid (Below wo.heap.size wo wo) := Lib.hid (Below.refl _ _)
      clear hh hq hat HAT HLk
      go_wp2_with fail
      go_loopw [5, 7] (fun v i wr => ∃ (k2 : Nat) (A3 : Option Addr) (c3 : Nat) (it3 : List ByteArray), k2 ≤ q ∧ i = .int .i64 k2 ∧ v = .slice A3 it3.length c3 ∧ Hid (ItTo (L.take k ++ [hs.take k2]) it3) ∧ Hid (wr.ownsRow w.heap.size 9 1 (.slice A3 it3.length c3) it3.length (it3.map .string)) ∧ Hid (Below wo.heap.size wo wr)) (fun _ i _ => q - (intOf i).toNat)
      case atStart => exact ⟨0, _, _, its, Nat.zero_le _, rfl, rfl, HIT, hrow, hB0⟩
      case round =>
        clear HIT hrow hB0 hit
        obtain ⟨k2, A3, c3, it3, hk2, rfl, rfl, hit3, hrow3, hbq⟩ := hrel
        have hqz := hbq.out.size
        obtain ⟨e0, hrq⟩ := HAW.out wr hbq.out
        by_cases hlt2 : k2 < q
        · obtain ⟨x, hx⟩ : ∃ x, hs[k2]? = some x := ⟨hs[k2]'(by rw [HQ.out]; exact hlt2), List.getElem?_eq_getElem _⟩
          obtain ⟨g2, o2, rfl, _, hcc⟩ := hrq.at (by omega)
          have e1 : wr.cell? ⟨g2, o2 + k2 * 2, none⟩ = some (.string x.1) := hcc (k2 * 2) _ (by have := flat_get hasC 2 hasC_len _ k2 0 x hx (by omega); simpa [hasC] using this)
          have HL3 : Hid (it3.length ≤ 100) := Lib.hid (Nat.le_trans (hit3.out.len (I := I) (fun r hr h hh => by
            rcases List.mem_append.1 hr with hr | hr
            · exact HI.out r (List.mem_of_mem_take hr) h hh
            · simp at hr; subst hr; exact HI.out hs (List.mem_of_getElem? HH.out) h (List.mem_of_mem_take hh))) hIl)
          have HPT := Lib.hid (HPUTI.out wr it3 A3 c3 x.1 HL3.out hrow3.out (by omega) hit3.out.1)
          have HTK : Hid (hs.take k2 ++ [x] = hs.take (k2 + 1)) := Lib.hid (by rw [List.take_add_one, hx]; rfl)
          have hj8 : (k2 : Int) < (q : Int) := by omega
          have hj9 : (0 : Int) ≤ (k2 : Int) := by omega
          clear hx hcc hrq
          go_wp2_with fail
          refine HPT.out.mono ?_
          rintro e w3 ⟨A4, c4, it4, rfl, ho4, hi4, hl4, hb4⟩
          have HF : Hid (ItTo (L.take k ++ [hs.take (k2 + 1)]) it4) := Lib.hid (by rw [← HTK.out]; exact hit3.out.step hi4)
          have HO4 := Lib.hid ho4
          have HB4 : Hid (Below wo.heap.size wo w3) := Lib.hid (hbq.out.trans (hb4.mono hqz))
          clear ho4 hi4 hl4 hb4 HPT
          go_wp2_with fail
          go_roundw
          case rel => exact ⟨k2 + 1, A4, c4, it4, by omega, by go_num, rfl, HF, HO4, HB4⟩
          case measure => simp [intOf]; omega
        · obtain rfl : q = k2 := by omega
          have HF : Hid (ItTo (L.take (k + 1)) it3) := Lib.hid (by
            have := hit3.out
            rw [show hs.take q = hs from by rw [← HQ.out, List.take_length], HLT.out] at this
            exact this)
          clear hrq
          go_wp2_with fail
          go_roundw
          case rel => exact ⟨k + 1, A3, c3, it3, by omega, by go_num, rfl, HF, hrow3, Lib.hid (hbw.out.trans (hbq.out.mono hwz))⟩
          case measure => simp [intOf]; omega
    · obtain rfl : n = k := by omega
      have HIT : Hid (ItTo L its) := Lib.hid (by
        have := hit.out
        rw [show L.take n = L from by rw [← HN.out, List.take_length]] at this
        exact this)
      have HIL : Hid (its.length ≤ 100) := Lib.hid (Nat.le_trans (HIT.out.len HI.out) hIl)
      obtain ⟨q, hq⟩ : ∃ q, its.length = q := ⟨_, rfl⟩
      rw [hq] at HIL hrow ⊢
      have HQ := Lib.hid hq
      have hq6 : q ≤ 100 := HIL.out
      have HRI : Hid (∀ W, Below wo.heap.size wo W → RowIn W wo.heap.size 1 A2 q (its.map .string)) := Lib.hid (fun W hW => (RowIn.of_own hrow.out).below hW)
      obtain ⟨w2, hw2⟩ : ∃ w2, wo.alloc (.cells #[] 46) = w2 := ⟨_, rfl⟩
      have HO2 : Hid (w2.ownsRow wo.heap.size 46 3 (.slice (some ⟨wo.heap.size, 0, none⟩) 0 0) 0 ([].flatMap prC)) := Lib.hid (by rw [← hw2]; exact own_empty _ _ _)
      have HB2 : Hid (Below wo.heap.size wo w2) := Lib.hid (by rw [← hw2]; exact (Below.refl _ _).alloc (Nat.le_refl _) _)
      have HPS : Hid (PrTo (rC L) fl its 0 0 []) := Lib.hid (PrTo.start _ _ _)
      clear hq hit HIL
      go_wp2_with fail
      clear hw2
      go_loopw [8, 46] (fun v ix wa => ∃ (i no : Nat) (out : List Pr), i ≤ q ∧ ix = .int .i64 i ∧ Hid (out.length = no) ∧ Hid (PrTo (rC L) fl its i 0 out) ∧ Hid (wa.ownsRow wo.heap.size 46 3 v no (out.flatMap prC)) ∧ Hid (Below wo.heap.size wo wa)) (fun _ i _ => q - (intOf i).toNat)
      case atStart => exact ⟨0, 0, [], Nat.zero_le _, rfl, Lib.hid rfl, HPS, HO2, HB2⟩
      case round =>
        clear HO2 HB2 HPS
        obtain ⟨i, no0, out0, hi, rfl, hno0, hpr0, hrow0, hba⟩ := hrel
        obtain ⟨wa, rfl⟩ : ∃ wa : World, wa = wr := ⟨_, rfl⟩
        have haz := hba.out.size
        by_cases hlti : i < q
        · obtain ⟨a, ha⟩ : ∃ a, its[i]? = some a := ⟨its[i]'(by rw [HQ.out]; exact hlti), List.getElem?_eq_getElem _⟩
          have HA := Lib.hid ha
          obtain ⟨ga, oa, hAa, _, hca⟩ := (HRI.out wa hba.out).at (by omega)
          subst hAa
          have e1 : wa.cell? ⟨ga, oa + i, none⟩ = some (.string a) := hca i _ (by simp [ha])
          have hi8 : (i : Int) < (q : Int) := by omega
          have hi9 : (0 : Int) ≤ (i : Int) := by omega
          clear ha hca
          go_wp2_with fail
          clear e1
          go_loopw [8, 52] (fun v jx wb => ∃ (j no : Nat) (out : List Pr), j ≤ q ∧ jx = .int .i64 j ∧ Hid (out.length = no) ∧ Hid (PrTo (rC L) fl its i j out) ∧ Hid (wb.ownsRow wo.heap.size 46 3 v no (out.flatMap prC)) ∧ Hid (Below wo.heap.size wo wb)) (fun _ j _ => q - (intOf j).toNat)
          case atStart => exact ⟨0, no0, out0, Nat.zero_le _, rfl, hno0, hpr0, hrow0, hba⟩
          case round =>
            clear hno0 hpr0 hrow0 hba haz
            obtain ⟨j, no, out, hj, rfl, HNO, hpr, hrowb, hbb⟩ := hrel
            obtain ⟨wb, rfl⟩ : ∃ wb : World, wb = wr := ⟨_, rfl⟩
            obtain ⟨Ao, co, hqo⟩ := own_shape hrowb.out
            rw [hqo] at hrowb ⊢
            clear hqo
            have hbz := hbb.out.size
            by_cases hltj : j < q
            · obtain ⟨b, hb⟩ : ∃ b, its[j]? = some b := ⟨its[j]'(by rw [HQ.out]; exact hltj), List.getElem?_eq_getElem _⟩
              have HBB := Lib.hid hb
              obtain ⟨gb, ob, hAb, _, hcb⟩ := (HRI.out wb hbb.out).at (by omega)
              cases hAb
              have e1 : wb.cell? ⟨ga, oa + j, none⟩ = some (.string b) := hcb j _ (by simp [hb])
              have HWB : Hid (Below w.heap.size w wb) := Lib.hid (hbw.out.trans (hbb.out.mono hwz))
              have HCN := Lib.hid (rcount_any wb base A L n c a b HN.out (HL.out wb HWB.out) hnb HLB.out)
              obtain ⟨z, hz⟩ : ∃ z : Int, (rC L a b : Int) = z := ⟨_, rfl⟩
              have HZ := Lib.hid hz
              rw [hz] at HCN
              have hj8 : (j : Int) < (q : Int) := by omega
              have hj9 : (0 : Int) ≤ (j : Int) := by omega
              have HNL : Hid (no ≤ 10000) := Lib.hid (by
                have h1 := hpr.out.len
                rw [HNO.out, HQ.out] at h1
                have h2 : q * q ≤ 100 * 100 := Nat.mul_le_mul hq6 hq6
                omega)
              have hnol := HNL.out
              clear hb hcb hz HNL
              go_wp2_with fail
              refine HCN.out.mono ?_
              rintro e w3 ⟨rfl, hb3⟩
              obtain ⟨w4, hw4⟩ : ∃ w4, w3.alloc (.cells #[.string a, .string b, .int .i64 z] 46) = w4 := ⟨_, rfl⟩
              have HK4 : Hid (Blk w4 w3.heap.size 46 #[.string a, .string b, .int .i64 z]) := Lib.hid (by rw [← hw4]; exact Blk.new _ _ _)
              have HBb4 : Hid (Below wb.heap.size wb w4) := Lib.hid (by rw [← hw4]; exact hb3.alloc hb3.size _)
              have HB4 : Hid (Below wo.heap.size wo w4) := Lib.hid (hbb.out.trans (HBb4.out.mono hbz))
              have HROW4 : Hid (w4.ownsRow wo.heap.size 46 3 (.slice Ao no co) no (out.flatMap prC)) := Lib.hid (owns_kept hrowb.out (below_kept (S := fun _ => False) HBb4.out (Nat.le_refl _)) (fun _ _ h => h))
              have f2 : w4.cell? ⟨w3.heap.size, 2, none⟩ = some (.int .i64 z) := HK4.out.cell 2
              clear hb3 HCN HBb4 e1 hrowb
              by_cases p1 : z < 1
              · have dp : decide (z < 1) = true := decide_eq_true p1
                have HSK : Hid (PrTo (rC L) fl its i (j + 1) out) := Lib.hid (hpr.out.skip HA.out HBB.out (by rw [HZ.out]; omega))
                go_wp2_with fail
                go_roundw
                case rel => exact ⟨j + 1, no, out, by omega, by go_num, HNO, HSK, Lib.hid (owns_kept HROW4.out (Kept.refl (fun _ => False) _) (fun _ _ h => h)), HB4⟩
                case measure => simp [intOf]; omega
              have dp : decide (z < 1) = false := decide_eq_false p1
              by_cases p2 : z < fl
              · have dp2 : decide (z < fl) = true := decide_eq_true p2
                have HSK : Hid (PrTo (rC L) fl its i (j + 1) out) := Lib.hid (hpr.out.skip HA.out HBB.out (by rw [HZ.out]; omega))
                go_wp2_with fail
                go_roundw
                case rel => exact ⟨j + 1, no, out, by omega, by go_num, HNO, HSK, Lib.hid (owns_kept HROW4.out (Kept.refl (fun _ => False) _) (fun _ _ h => h)), HB4⟩
                case measure => simp [intOf]; omega
              have dp2 : decide (z < fl) = false := decide_eq_false p2
              obtain ⟨s, hs⟩ : ∃ s : Pr, ((a, b), z) = s := ⟨_, rfl⟩
              have s1 : s.1.1 = a := by rw [← hs]
              have s2 : s.1.2 = b := by rw [← hs]
              have s3 : s.2 = z := by rw [← hs]
              have HFR : Hid (s ∉ out) := Lib.hid (by rw [← hs]; exact hpr.out.fresh HIT.out.1 HA.out HBB.out)
              have HSO : Hid (out.Pairwise ltP) := Lib.hid hpr.out.1
              have HPUT : Hid (∀ o2 : List Pr, (o2.Pairwise ltP ∧ ∀ y, y ∈ o2 ↔ y ∈ out ∨ y = s) → PrTo (rC L) fl its i (j + 1) o2) := Lib.hid (fun o2 ho => hpr.out.put HA.out HBB.out (by rw [HZ.out]; omega) (by rw [HZ.out, hs]; exact ho))
              obtain ⟨w5, hw5⟩ : ∃ w5, w4.alloc (.cells #[] 46) = w5 := ⟨_, rfl⟩
              have HB6 : Hid (Below w4.heap.size w4 w5) := Lib.hid (by rw [← hw5]; exact (Below.refl _ _).alloc (Nat.le_refl _) _)
              have HO6 : Hid (w5.ownsRow w4.heap.size 46 3 (.slice (some ⟨w4.heap.size, 0, none⟩) 0 0) 0 ([].flatMap prC)) := Lib.hid (by rw [← hw5]; exact own_empty _ _ _)
              have HRO : Hid (RowIn w4 w4.heap.size 3 Ao no (out.flatMap prC)) := Lib.hid (RowIn.of_own HROW4.out)
              have HST : Hid (∀ W, Below w4.heap.size w4 W → World.cell? W ⟨w3.heap.size, 0, none⟩ = some (.string s.1.1) ∧ World.cell? W ⟨w3.heap.size, 1, none⟩ = some (.string s.1.2) ∧ World.cell? W ⟨w3.heap.size, 2, none⟩ = some (.int .i64 s.2)) := Lib.hid (fun W hW => by
                rw [s1, s2, s3]
                exact ⟨(hW.cell (p := ⟨w3.heap.size, 0, none⟩) HK4.out.lt).trans (HK4.out.cell 0), (hW.cell (p := ⟨w3.heap.size, 1, none⟩) HK4.out.lt).trans (HK4.out.cell 1), (hW.cell (p := ⟨w3.heap.size, 2, none⟩) HK4.out.lt).trans (HK4.out.cell 2)⟩)
              have hz04 := HB4.out.size
              have HHS := Lib.hid hs
              clear s1 s2 s3 hs HROW4 hpr
              go_wp2_with fail
              clear hw4 hw5 f2 dp dp2 p1 p2
              go_loopw [14, 15, 16] (fun v d i wr => ∃ (k m : Nat) (dn : Bool) (nx : List Pr), k ≤ no ∧ m ≤ k + 1 ∧ (dn = false → m ≤ k) ∧ i = .int .i64 k ∧ d = .bool dn ∧ Hid (nx.length = m) ∧ Hid (PInsTo out s k dn nx) ∧ Hid (wr.ownsRow w4.heap.size 46 3 v m (nx.flatMap prC)) ∧ Hid (Below w4.heap.size w4 wr)) (fun _ _ i _ => no - (intOf i).toNat)
              case atStart => exact ⟨0, 0, false, [], Nat.zero_le _, by omega, fun _ => Nat.le_refl _, rfl, rfl, Lib.hid rfl, Lib.hid ⟨List.Pairwise.nil, fun _ => ⟨rfl, fun y hy => (by cases hy)⟩, fun h => (by cases h)⟩, HO6, HB6⟩
              case round =>
                clear HO6 HB6
                obtain ⟨k, m, dn, nx, hk, hmk, hmd, rfl, rfl, hm, hput, hrow, hbw⟩ := hrel
                obtain ⟨A5, c5, hq⟩ := own_shape hrow.out
                rw [hq] at hrow ⊢
                clear hq
                have hwz := hbw.out.size
                by_cases hlt : k < no
                · obtain ⟨x, hx⟩ : ∃ x, out[k]? = some x := ⟨out[k]'(by rw [HNO.out]; exact hlt), List.getElem?_eq_getElem _⟩
                  have HX := Lib.hid hx
                  have HNE : Hid (s ≠ x) := Lib.hid (fun e => HFR.out (by rw [e]; exact List.mem_of_getElem? hx))
                  obtain ⟨g, o, rfl, hgB, hcl⟩ := prs_at HRO.out (by omega)
                  have HCE : Hid (∀ W, Below w4.heap.size w4 W → World.cell? W ⟨w3.heap.size, 0, none⟩ = some (.string s.1.1) ∧ World.cell? W ⟨w3.heap.size, 1, none⟩ = some (.string s.1.2) ∧ World.cell? W ⟨w3.heap.size, 2, none⟩ = some (.int .i64 s.2) ∧ World.cell? W ⟨g, o + k * 3, none⟩ = some (.string x.1.1) ∧ World.cell? W ⟨g, o + k * 3 + 1, none⟩ = some (.string x.1.2) ∧ World.cell? W ⟨g, o + k * 3 + 2, none⟩ = some (.int .i64 x.2)) := Lib.hid (fun W hW =>
                    ⟨(HST.out W hW).1, (HST.out W hW).2.1, (HST.out W hW).2.2, (hW.cell (p := ⟨g, o + k * 3, none⟩) (by show g < _; exact hgB)).trans (hcl k x hx).1, (hW.cell (p := ⟨g, o + k * 3 + 1, none⟩) (by show g < _; exact hgB)).trans (hcl k x hx).2.1, (hW.cell (p := ⟨g, o + k * 3 + 2, none⟩) (by show g < _; exact hgB)).trans (hcl k x hx).2.2⟩)
                  have hk8 : (k : Int) < (no : Int) := by omega
                  have hk9 : (0 : Int) ≤ (k : Int) := by omega
                  clear hcl hx
                  cases dn
                  · have hm2 := hmd rfl
                    have HLE := Lib.hid (rlessP_any s x wr.drew)
                    clear hmd
                    go_wp2_with fail
                    refine wp_plan (fun W => Below w4.heap.size w4 W) [(0, false), (1, false), (2, false), (3, false), (4, false), (5, false), (6, false), (7, false), (8, true), (9, false)] (by kernel_rfl) (by kernel_rfl) (below_drew hbw.out) ?_
                    simp only [planL, List.getElem?_cons_zero, List.getElem?_cons_succ]
                    repeat (first | (refine plan_on _ (by rfl) (fun W hW => by (obtain ⟨y0, y1, y2, y3, y4, y5⟩ := HCE.out W hW; go_simp; try with_reducible rfl)) ?_; simp only [Act.put, List.setIfInBounds_toArray, List.set_cons_zero, List.set_cons_succ]) | (refine plan_off (by rfl) ?_; simp only [Act.put, List.setIfInBounds_toArray, List.set_cons_zero, List.set_cons_succ]))
                    refine plan_turn ?_
                    go_wp2_with fail
                    refine HLE.out.mono ?_
                    rintro e w6 ⟨rfl, hb6⟩
                    have HB6 : Hid (Below w4.heap.size w4 w6) := Lib.hid ((below_drew hbw.out).trans (hb6.mono hwz))
                    have HO6 : Hid (w6.ownsRow w4.heap.size 46 3 (.slice A5 m c5) m (nx.flatMap prC)) := Lib.hid (owns_kept hrow.out (below_kept (S := fun _ => False) (below_from 1 hb6) (Nat.le_refl _)) (fun _ _ h => h))
                    have hz6 := HB6.out.size
                    clear hb6 HLE
                    cases dq : ltPB s x
                    · have HP : Hid (PInsTo out s (k + 1) false (nx ++ [x])) := Lib.hid (hput.out.past HSO.out HX.out (fun h => by rw [(ltPB_iff s x).2 h] at dq; cases dq) HNE.out)
                      clear dq
                      go_wp2_with fail
                      refine ⟨HB6.out, ?_⟩
                      repeat (first | (refine plan_on _ (by rfl) (fun W hW => by (obtain ⟨y0, y1, y2, y3, y4, y5⟩ := HCE.out W hW; go_simp; try with_reducible rfl)) ?_; simp only [Act.put, List.setIfInBounds_toArray, List.set_cons_zero, List.set_cons_succ]) | (refine plan_off (by rfl) ?_; simp only [Act.put, List.setIfInBounds_toArray, List.set_cons_zero, List.set_cons_succ]))
                      refine plan_done ?_
                      obtain ⟨y0, y1, y2, y3, y4, y5⟩ := HCE.out w6 HB6.out
                      go_wp2_with (first
                        | (at_builtin; refine wpList_append_row _ rfl _ _ 42 rfl w4.heap.size 46 i0 _ 3 40 Tryd.underlying42 hi0 hz0 hz1 hz2 rfl (by omega) (.slice A5 m c5) m _ rfl (HO6.out.alloc _) (w6.heap.size + 1) (some ⟨w6.heap.size, 0, none⟩) 1 1 (prC x) rfl (one_pr w6 x _) (fun h => by cases h) (fun u hu => prC_one [x] u (by simpa using hu)) (by unfold maxLen; omega) (by omega) (by simp; omega) ?_; intro v7 w7 ho7 hg7 hv7))
                      go_roundw
                      case rel =>
                        refine ⟨k + 1, m + 1, false, nx ++ [x], by omega, by omega, fun _ => by omega, by go_num, rfl, Lib.hid ?_, HP, Lib.hid ?_, Lib.hid ((HB6.out.alloc hz6 _).grown hg7 (by simp; omega) (fun j hj => (HO6.out.lt _ hj).1))⟩
                        · simp [hm.out]
                        · rw [flatP_snoc]; exact ho7
                      case measure => simp [intOf]; omega
                    · have HP : Hid (PInsTo out s (k + 1) true ((nx ++ [s]) ++ [x])) := Lib.hid (hput.out.here HSO.out HX.out ((ltPB_iff s x).1 dq))
                      clear dq
                      go_wp2_with fail
                      refine ⟨HB6.out, ?_⟩
                      repeat (first | (refine plan_on _ (by rfl) (fun W hW => by (obtain ⟨y0, y1, y2, y3, y4, y5⟩ := HCE.out W hW; go_simp; try with_reducible rfl)) ?_; simp only [Act.put, List.setIfInBounds_toArray, List.set_cons_zero, List.set_cons_succ]) | (refine plan_off (by rfl) ?_; simp only [Act.put, List.setIfInBounds_toArray, List.set_cons_zero, List.set_cons_succ]))
                      refine plan_done ?_
                      obtain ⟨y0, y1, y2, y3, y4, y5⟩ := HCE.out w6 HB6.out
                      go_wp2_with (first
                        | (at_builtin; refine wpList_append_row _ rfl _ _ 42 rfl w4.heap.size 46 i0 _ 3 40 Tryd.underlying42 hi0 hz0 hz1 hz2 rfl (by omega) (.slice A5 m c5) m _ rfl (HO6.out.alloc _) (w6.heap.size + 1) (some ⟨w6.heap.size, 0, none⟩) 1 1 (prC s) rfl (one_pr w6 s _) (fun h => by cases h) (fun u hu => prC_one [s] u (by simpa using hu)) (by unfold maxLen; omega) (by omega) (by simp; omega) ?_; intro v7 w7 ho7 hg7 hv7; obtain ⟨A7, c7, hv⟩ := own_shape ho7; subst hv; have HO7 := Lib.hid ho7; have HB7 : Hid (Below w4.heap.size w4 w7) := Lib.hid ((HB6.out.alloc hz6 _).grown hg7 (by simp; omega) (fun j hj => (HO6.out.lt _ hj).1)); obtain ⟨z0, z1, z2, z3, z4, z5⟩ := HCE.out w7 HB7.out; have hz7 := HB7.out.size; clear y0 y1 y2 y3 y4 y5 ho7 hg7 hv7)
                        | (at_builtin; refine wpList_append_row _ rfl _ _ 42 rfl w4.heap.size 46 i0 _ 3 40 Tryd.underlying42 hi0 hz0 hz1 hz2 rfl (by omega) (.slice A7 (m + 1) c7) (m + 1) _ rfl (HO7.out.alloc _) (w7.heap.size + 1) (some ⟨w7.heap.size, 0, none⟩) 1 1 (prC x) rfl (one_pr w7 x _) (fun h => by cases h) (fun u hu => prC_one [x] u (by simpa using hu)) (by unfold maxLen; omega) (by omega) (by simp; omega) ?_; intro v8 w8 ho8 hg8 hv8))
                      go_roundw
                      case rel =>
                        refine ⟨k + 1, m + 1 + 1, true, (nx ++ [s]) ++ [x], by omega, by omega, fun h => (by cases h), by go_num, rfl, Lib.hid ?_, HP, Lib.hid ?_, Lib.hid ((HB7.out.alloc hz7 _).grown hg8 (by simp; omega) (fun j hj => (HO7.out.lt _ hj).1))⟩
                        · simp [hm.out]
                        · rw [flatP_snoc, flatP_snoc]; exact ho8
                      case measure => simp [intOf]; omega
                  · have HP : Hid (PInsTo out s (k + 1) true (nx ++ [x])) := Lib.hid (hput.out.on HSO.out HX.out)
                    clear hmd
                    go_wp2_with fail
                    refine wp_plan (fun W => Below w4.heap.size w4 W) [(0, false), (1, false), (2, false), (3, false), (4, false), (5, false), (6, false), (7, false), (8, true), (9, false)] (by kernel_rfl) (by kernel_rfl) (below_drew hbw.out) ?_
                    simp only [planL, List.getElem?_cons_zero, List.getElem?_cons_succ]
                    repeat (first | (refine plan_on _ (by rfl) (fun W hW => by (obtain ⟨y0, y1, y2, y3, y4, y5⟩ := HCE.out W hW; go_simp; try with_reducible rfl)) ?_; simp only [Act.put, List.setIfInBounds_toArray, List.set_cons_zero, List.set_cons_succ]) | (refine plan_off (by rfl) ?_; simp only [Act.put, List.setIfInBounds_toArray, List.set_cons_zero, List.set_cons_succ]))
                    refine plan_turn ?_
                    go_wp2_with fail
                    refine ⟨below_drew hbw.out, ?_⟩
                    repeat (first | (refine plan_on _ (by rfl) (fun W hW => by (obtain ⟨y0, y1, y2, y3, y4, y5⟩ := HCE.out W hW; go_simp; try with_reducible rfl)) ?_; simp only [Act.put, List.setIfInBounds_toArray, List.set_cons_zero, List.set_cons_succ]) | (refine plan_off (by rfl) ?_; simp only [Act.put, List.setIfInBounds_toArray, List.set_cons_zero, List.set_cons_succ]))
                    refine plan_done ?_
                    obtain ⟨w6, hw6⟩ : ∃ w6, wr.drew = w6 := ⟨_, rfl⟩
                    rw [hw6]
                    have HB6 : Hid (Below w4.heap.size w4 w6) := Lib.hid (by rw [← hw6]; exact below_drew hbw.out)
                    have HO6 : Hid (w6.ownsRow w4.heap.size 46 3 (.slice A5 m c5) m (nx.flatMap prC)) := Lib.hid (by rw [← hw6]; exact hrow.out)
                    have hz6 := HB6.out.size
                    clear hw6
                    obtain ⟨y0, y1, y2, y3, y4, y5⟩ := HCE.out w6 HB6.out
                    go_wp2_with (first
                      | (at_builtin; refine wpList_append_row _ rfl _ _ 42 rfl w4.heap.size 46 i0 _ 3 40 Tryd.underlying42 hi0 hz0 hz1 hz2 rfl (by omega) (.slice A5 m c5) m _ rfl (HO6.out.alloc _) (w6.heap.size + 1) (some ⟨w6.heap.size, 0, none⟩) 1 1 (prC x) rfl (one_pr w6 x _) (fun h => by cases h) (fun u hu => prC_one [x] u (by simpa using hu)) (by unfold maxLen; omega) (by omega) (by simp; omega) ?_; intro v7 w7 ho7 hg7 hv7))
                    go_roundw
                    case rel =>
                      refine ⟨k + 1, m + 1, true, nx ++ [x], by omega, by omega, fun h => (by cases h), by go_num, rfl, Lib.hid ?_, HP, Lib.hid ?_, Lib.hid ((HB6.out.alloc hz6 _).grown hg7 (by simp; omega) (fun j hj => (HO6.out.lt _ hj).1))⟩
                      · simp [hm.out]
                      · rw [flatP_snoc]; exact ho7
                    case measure => simp [intOf]; omega
                · obtain rfl : no = k := by omega
                  have htl : out.take no = out := by rw [← HNO.out, List.take_length]
                  cases dn
                  · obtain ⟨p1, p2, _⟩ := hput.out
                    obtain ⟨p3, p4⟩ := p2 rfl
                    rw [htl] at p3 p4
                    have HPF : Hid (PrTo (rC L) fl its i (j + 1) (nx ++ [s])) := Lib.hid (HPUT.out _ ⟨p_snoc p1 (by rw [p3]; exact p4), fun y => by rw [List.mem_append, List.mem_singleton, p3]⟩)
                    have hm2 := hmd rfl
                    obtain ⟨y0, y1, y2⟩ := HST.out wr hbw.out
                    clear p1 p2 p3 p4 htl hmd
                    go_wp2_with (first
                      | (at_builtin; refine wpList_append_row _ rfl _ _ 42 rfl w4.heap.size 46 i0 _ 3 40 Tryd.underlying42 hi0 hz0 hz1 hz2 rfl (by omega) (.slice A5 m c5) m _ rfl (hrow.out.alloc _) (wr.heap.size + 1) (some ⟨wr.heap.size, 0, none⟩) 1 1 (prC s) rfl (one_pr wr s _) (fun h => by cases h) (fun u hu => prC_one [s] u (by simpa using hu)) (by unfold maxLen; omega) (by omega) (by simp; omega) ?_; intro v7 w7 ho7 hg7 hv7))
                    obtain ⟨A7, c7, hv⟩ := own_shape ho7
                    subst hv
                    go_roundw
                    case rel =>
                      refine ⟨j + 1, m + 1, nx ++ [s], by omega, by go_num, Lib.hid (by simp [hm.out]), HPF, Lib.hid (own_mono (by rw [flatP_snoc]; exact ho7) hz04), Lib.hid (HB4.out.trans (((hbw.out.alloc hwz _).grown hg7 (by simp; omega) (fun j hj => (hrow.out.lt _ hj).1)).mono hz04))⟩
                    case measure => simp [intOf]; omega
                  · obtain ⟨p1, _, p3⟩ := hput.out
                    obtain ⟨p4, _⟩ := p3 rfl
                    rw [htl] at p4
                    have HPF : Hid (PrTo (rC L) fl its i (j + 1) nx) := Lib.hid (HPUT.out _ ⟨p1, p4⟩)
                    clear p1 p3 p4 htl hmd
                    go_wp2_with fail
                    go_roundw
                    case rel => exact ⟨j + 1, m, nx, by omega, by go_num, hm, HPF, Lib.hid (own_mono hrow.out hz04), Lib.hid (HB4.out.trans (hbw.out.mono hz04))⟩
                    case measure => simp [intOf]; omega
            · obtain rfl : q = j := by omega
              have HPN : Hid (PrTo (rC L) fl its (i + 1) 0 out) := Lib.hid (by
                have := hpr.out
                rw [← HQ.out] at this
                exact this.next (by rw [HQ.out]; exact hlti))
              go_wp2_with fail
              go_roundw
              case rel => exact ⟨i + 1, no, out, by omega, by go_num, HNO, HPN, hrowb, hbb⟩
              case measure => simp [intOf]; omega
        · obtain rfl : q = i := by omega
          obtain ⟨Ao, co, hqo⟩ := own_shape hrow0.out
          rw [hqo] at hrow0 ⊢
          clear hqo
          have HIP : Hid (IsPairs (rC L) fl out0) := Lib.hid (by
            have := hpr0.out
            rw [← HQ.out] at this
            exact this.done HIT.out (fun x y h => rC_mem h))
          have HNL : Hid (no0 ≤ 10000) := Lib.hid (by
            have h1 := hpr0.out.len
            rw [hno0.out, HQ.out] at h1
            have h2 : q * q ≤ 100 * 100 := Nat.mul_le_mul hq6 hq6
            omega)
          go_wp2_with fail
          go_ret
          exact ⟨Ao, no0, co, out0, rfl, hno0.out, HNL.out, own_mono hrow0.out hwz, HIP.out, hbw.out.trans (hba.out.mono hwz)⟩

end Go.Proofs.YtcgangmmehbdoaaDoor
