/- CrowdFades: plain, and the walk. -/
import Derived.Test.YtnkglbiakjnfjaaDoorCrTells
namespace Go.Proofs.YtnkglbiakjnfjaaDoor
open Go.Shelf Go.RowKit Go.Maps
set_option linter.unusedVariables false

/-! ### plain -/
theorem pow_mono {a b : Nat} (h : a ≤ b) : (2 : Int) ^ a ≤ 2 ^ b := by
  have := Nat.pow_le_pow_right (n := 2) (by omega) h
  exact_mod_cast this
theorem wgt_mono {a b half : Int} (ha : 0 ≤ a) (hab : a ≤ b) (hh : 1 ≤ half) : wgtP b half ≤ wgtP a half := by
  have hd : a / half ≤ b / half := Int.ediv_le_ediv (by omega) hab
  have h0 : 0 ≤ a / half := Int.ediv_nonneg ha (by omega)
  have hb := wgt_bd a half
  have ea : wgtP a half = if 20 < a / half then 0 else 1048576 / 2 ^ (a / half).toNat := by unfold wgtP; rw [if_neg (show ¬ a < 0 by omega)]
  have eb : wgtP b half = if 20 < b / half then 0 else 1048576 / 2 ^ (b / half).toNat := by unfold wgtP; rw [if_neg (show ¬ b < 0 by omega)]
  rw [ea] at hb
  rw [ea, eb]
  by_cases h1 : 20 < b / half
  · rw [if_pos h1]; exact hb.1
  · rw [if_neg h1, if_neg (show ¬ 20 < a / half by omega)]
    have hp : (0 : Int) < 2 ^ (a / half).toNat := Int.pow_pos (by omega)
    have hq : (0 : Int) < 2 ^ (b / half).toNat := Int.pow_pos (by omega)
    have hm : (2 : Int) ^ (a / half).toNat ≤ 2 ^ (b / half).toNat := pow_mono (by omega)
    rw [Int.le_ediv_iff_mul_le hp]
    refine Int.le_trans (Int.mul_le_mul_of_nonneg_left hm (Int.ediv_nonneg (by omega) (by omega))) ?_
    exact Int.ediv_mul_le _ (by omega)
theorem wgt_gone {a half : Int} (hh : 1 ≤ half) (h : 21 * half ≤ a) : wgtP a half = 0 := by
  unfold wgtP
  split
  · rfl
  · rw [if_pos]
    have : 21 ≤ a / half := (Int.le_ediv_iff_mul_le (by omega)).2 h
    omega
def NdT (l : List Rw) : Prop := ∀ r ∈ l, r.ts.Nodup
theorem Tw.nd {a b : List Rw} (h : Tw a b) : NdT a := by
  induction h with
  | nil => intro r hr; cases hr
  | snoc h hr ih =>
    intro x hx
    rcases List.mem_append.1 hx with hx | hx
    · exact ih x hx
    · simp at hx; subst hx; exact hr.2.1
theorem NdT.own {l : List Rw} (h : NdT l) (p : ByteArray) : NdT (ownC l p) := fun r hr => h r (ownC_mem.1 hr).1
/-- What one row gives to a tag. -/
def giv (half now : Int) (t : ByteArray) (r : Rw) : Int := if (decide (r.e.tick ≤ now) && memB t r.ts) = true then rowW half now r else 0
theorem sum_snoc {half now : Int} {l : List Rw} {r : Rw} (h : NdT (l ++ [r])) (t : ByteArray) : (skL half now (l ++ [r])).S t = (skL half now l).S t + giv half now t r := by
  rw [skL_snoc, skR_S (h r (by simp))]
  rfl
theorem sum_le {half now now' : Int} {t : ByteArray} {l : List Rw} (hn : NdT l) (h : ∀ r ∈ l, giv half now' t r ≤ giv half now t r) : (skL half now' l).S t ≤ (skL half now l).S t := by
  revert hn h
  refine snocInd' (p := fun l => NdT l → (∀ r ∈ l, giv half now' t r ≤ giv half now t r) → (skL half now' l).S t ≤ (skL half now l).S t) l (fun _ _ => Int.le_refl _) (fun l r ih hn h => ?_)
  rw [sum_snoc hn, sum_snoc hn]
  have h1 := ih (fun x hx => hn x (List.mem_append_left _ hx)) (fun x hx => h x (List.mem_append_left _ hx))
  have h2 := h r (by simp)
  omega
theorem sum_zero {half now : Int} {t : ByteArray} {l : List Rw} (hn : NdT l) (h : ∀ r ∈ l, giv half now t r = 0) : (skL half now l).S t = 0 := by
  revert hn h
  refine snocInd' (p := fun l => NdT l → (∀ r ∈ l, giv half now t r = 0) → (skL half now l).S t = 0) l (fun _ _ => rfl) (fun l r ih hn h => ?_)
  rw [sum_snoc hn, ih (fun x hx => hn x (List.mem_append_left _ hx)) (fun x hx => h x (List.mem_append_left _ hx)), h r (by simp)]
  rfl
theorem giv_mono {half now now' : Int} {t : ByteArray} {r : Rw} (hh : 1 ≤ half) (hm : mayB r.e = true) (h1 : r.e.tick ≤ now) (h2 : now ≤ now') : giv half now' t r ≤ giv half now t r := by
  unfold giv
  have e1 : decide (r.e.tick ≤ now) = true := decide_eq_true h1
  have e2 : decide (r.e.tick ≤ now') = true := decide_eq_true (by omega)
  rw [e1, e2]
  cases memB t r.ts
  · exact Int.le_refl _
  · show rowW half now' r ≤ rowW half now r
    unfold rowW
    exact Int.mul_le_mul_of_nonneg_left (wgt_mono (by omega) (by omega) hh) (worth_bd hm).1
theorem giv_gone {half now : Int} {t : ByteArray} {r : Rw} (hh : 1 ≤ half) (h : 21 * half ≤ now - r.e.tick) : giv half now t r = 0 := by
  unfold giv rowW
  rw [wgt_gone hh h]
  split <;> simp
theorem giv_early {half now : Int} {t : ByteArray} {r : Rw} (h : now < r.e.tick) : giv half now t r = 0 := by
  unfold giv
  rw [show decide (r.e.tick ≤ now) = false from decide_eq_false (by omega)]
  rfl
theorem taste_nil {rs : List Rw} {half now : Int} {p : ByteArray} {L : List Ct} (h : IsTaste rs half p now L) (h0 : ∀ t, (skL half now (ownC rs p)).S t = 0) : L = [] := by
  cases L with
  | nil => rfl
  | cons x L =>
    have := (h.2 x).1 (by simp)
    rw [h0] at this
    omega
/-- Is a count behind one of the same key that is not less? -/
def fndB (L : List Ct) (b : Ct) : Bool := L.any fun a => decide (a.key = b.key ∧ b.n ≤ a.n)
theorem fndB_snoc (L : List Ct) (a b : Ct) : fndB (L ++ [a]) b = (fndB L b || decide (a.key = b.key ∧ b.n ≤ a.n)) := by
  unfold fndB; rw [List.any_append]; simp
theorem fades_found {rs : List Rw} {half now now' : Int} {p : ByteArray} {L L' : List Ct} (h : IsTaste rs half p now L) (h' : IsTaste rs half p now' L') (hs : ∀ t, (skL half now' (ownC rs p)).S t ≤ (skL half now (ownC rs p)).S t) {b : Ct} (hb : b ∈ L') : fndB L b = true := by
  have h1 := (h'.2 b).1 hb
  have h2 := hs b.key
  unfold fndB
  rw [List.any_eq_true]
  refine ⟨⟨b.key, (skL half now (ownC rs p)).S b.key⟩, (h.2 _).2 ⟨by dsimp only; omega, rfl⟩, decide_eq_true ⟨rfl, by dsimp only; omega⟩⟩
theorem own_in {xl : List Rd} {rs : List Rw} (he : evsD xl = evsR rs) {p : ByteArray} {r : Rw} (hr : r ∈ ownC rs p) : ∃ d ∈ ownR xl p, d.e = r.e := by
  obtain ⟨h1, h2⟩ := ownC_mem.1 hr
  have : r.e ∈ evsR rs := List.mem_map.2 ⟨r, h1, rfl⟩
  rw [← he] at this
  obtain ⟨d, hd, hde⟩ := List.mem_map.1 this
  exact ⟨d, List.mem_filter.2 ⟨hd, decide_eq_true (by rw [hde]; exact h2)⟩, hde⟩
theorem own_back {xl : List Rd} {rs : List Rw} (he : evsD xl = evsR rs) {p : ByteArray} {d : Rd} (hd : d ∈ ownR xl p) : ∃ r ∈ rs, r.e = d.e := by
  have h1 := (List.mem_filter.1 hd).1
  have : d.e ∈ evsD xl := List.mem_map.2 ⟨d, h1, rfl⟩
  rw [he] at this
  obtain ⟨r, hr, hre⟩ := List.mem_map.1 this
  exact ⟨r, hr, hre⟩
theorem cr_may {e : Ev} (h : crB e = true) : mayB e = true := by
  unfold crB at h
  rw [Bool.and_eq_true] at h
  exact h.1

theorem u16_of {x : Int} (h : (Lit.int .u16 x).wf = true) : 0 ≤ x ∧ x ≤ 65535 := by
  simp [Lit.wf, IntKind.min, IntKind.max, IntKind.signed, IntKind.bits] at h
  omega

set_option maxHeartbeats 8000000 in
set_option maxRecDepth 100000 in
theorem crowdFades_walk (half : Int) (A : Option Addr) (n c : Nat) (l : List Ri) (ps : ByteArray) (la mo : Int) (w : World) (ha : RwArg w A n c l) (hps : ps.size ≤ 140737488355328) (hla : (Lit.int .u16 la).wf = true) (hmo : (Lit.int .u16 mo).wf = true) (hg : GlobAt w) :
    Calls Tryd.prog 4 #[.int .i64 half, .slice A n c, .string ps, .int .u16 la, .int .u16 mo] w fun e w' => e = .returned (.bool true) ∧ Below w.heap.size w w' := by
  have HLG := Lib.hid (long_any w A l n c ha)
  have HRW := Lib.hid ha
  have HG := Lib.hid hg
  have hpm : ps.size ≤ maxLen := by unfold maxLen; omega
  have hl0 : 0 ≤ la ∧ la ≤ 65535 := u16_of hla
  have hm0 : 0 ≤ mo ∧ mo ≤ 65535 := u16_of hmo
  clear ha hg hla hmo
  go_enter Tryd.func4, Tryd.ntmps4
  go_wp2_with fail
  refine HLG.out.mono ?_
  rintro e w1 ⟨bl, rfl, hbl, hb1⟩
  have HB1 := Lib.hid hb1
  have HW1 := Lib.hid (awake_any w1 (HG.out.keep hb1 (Nat.le_refl _)))
  clear HLG hb1
  cases bl
  rotate_left
  · go_wp2_with fail
    refine HW1.out.mono ?_
    rintro e w2 ⟨rfl, hb2⟩
    have HB2 : Hid (Below w.heap.size w w2) := Lib.hid (HB1.out.trans (hb2.mono HB1.out.size))
    go_wp2_with fail
    go_ret
    exact ⟨rfl, HB2.out⟩
  have hsm := hbl rfl
  have h40 := hsm.1
  clear hbl
  by_cases q1 : (60 : Int) < (ps.size : Int)
  · go_wp2_with fail
    refine HW1.out.mono ?_
    rintro e w2 ⟨rfl, hb2⟩
    have HB2 : Hid (Below w.heap.size w w2) := Lib.hid (HB1.out.trans (hb2.mono HB1.out.size))
    go_wp2_with fail
    go_ret
    exact ⟨rfl, HB2.out⟩
  have d1 : decide ((60 : Int) < (ps.size : Int)) = false := decide_eq_false q1
  by_cases q2 : half < 1
  · go_wp2_with fail
    refine HW1.out.mono ?_
    rintro e w2 ⟨rfl, hb2⟩
    have HB2 : Hid (Below w.heap.size w w2) := Lib.hid (HB1.out.trans (hb2.mono HB1.out.size))
    go_wp2_with fail
    go_ret
    exact ⟨rfl, HB2.out⟩
  have d2 : decide (half < 1) = false := decide_eq_false q2
  by_cases q3 : 1073741824 < half
  · go_wp2_with fail
    refine HW1.out.mono ?_
    rintro e w2 ⟨rfl, hb2⟩
    have HB2 : Hid (Below w.heap.size w w2) := Lib.hid (HB1.out.trans (hb2.mono HB1.out.size))
    go_wp2_with fail
    go_ret
    exact ⟨rfl, HB2.out⟩
  have d3 : decide (1073741824 < half) = false := decide_eq_false q3
  have HFI := Lib.hid (fill_any half A n c l w1 (rw_below HRW.out HB1.out) hsm (HG.out.keep HB1.out (Nat.le_refl _)))
  clear HW1 hsm
  go_wp2_with fail
  refine HFI.out.mono ?_
  rintro e w3 ⟨cb, A', n', c', rfl, hfi, hb3⟩
  have HB3 : Hid (Below w.heap.size w w3) := Lib.hid (HB1.out.trans (hb3.mono HB1.out.size))
  obtain ⟨U, V, xl, xs, hcr, hdo, hdj, huv, htw, hri, hev, hxl⟩ := fill_open hfi
  have hhf : halfP half = half := by unfold halfP; omega
  obtain ⟨rs, hrs⟩ : ∃ rs, crowdOf (l.map rwOf) = rs := ⟨_, rfl⟩
  have hn40 : n' ≤ 40 := by
    have h1 := htw.len
    rw [hdo.len] at h1
    have h2 := crowdOf_len (l.map rwOf)
    rw [List.length_map, HRW.out.1] at h2
    omega
  have hr40 : rs.length ≤ 40 := by
    have h1 := htw.len
    rw [hdo.len, hrs] at h1
    omega
  rw [hhf, hrs] at hcr
  rw [hrs] at hev htw
  have HND : Hid (NdT (ownC rs ps)) := Lib.hid (htw.nd.own ps)
  have HMAY : Hid (∀ r ∈ rs, mayB r.e = true) := Lib.hid (fun r hr => cr_may (hcr.may r hr))
  have HEV := Lib.hid hev
  have HCR : Hid (∀ W, Below w3.heap.size w3 W → CrAt W cb half U rs) := Lib.hid (fun W hW => hcr.below hW)
  have HT : Hid (∀ W now, Below w3.heap.size w3 W → -4398046511104 ≤ now → now ≤ 4398046511104 → Calls Tryd.prog 15 #[.pointer (some ⟨cb, 0, none⟩), .string ps, .int .i64 now] W fun e w' => ∃ (A : Option Addr) (c : Nat) (L : List Ct), e = .returned (.slice A L.length c) ∧ IsTaste rs half ps now L ∧ L.length ≤ 1000000 ∧ RowIn w' w'.heap.size 2 A L.length (L.flatMap ctC) ∧ Below W.heap.size W w') := Lib.hid (fun W now hW h1 h2 => taste_any W cb half U rs ps now (HCR.out W hW) hpm (by omega) (by omega) (by omega) h1 h2)
  have HOW := Lib.hid (own_any w3 w3.heap.size A' n' c' xl ps hxl (RowIn.of_own hdo.own) (Nat.le_refl _) (by omega))
  have HTB : Hid (∀ d ∈ ownR xl ps, 0 ≤ d.e.tick ∧ d.e.tick ≤ 1099511627776) := Lib.hid (fun d hd => by
    obtain ⟨r, hr, hre⟩ := own_back HEV.out hd
    rw [← hre]
    exact may_tick (HMAY.out r hr))
  obtain ⟨ol, hol⟩ : ∃ ol, ownR xl ps = ol := ⟨_, rfl⟩
  have HIN : Hid (∀ r ∈ ownC rs ps, ∃ d ∈ ol, d.e = r.e) := Lib.hid (fun r hr => by rw [← hol]; exact own_in HEV.out hr)
  rw [hol] at HOW HTB
  clear hb3 hfi hcr hdo hdj huv htw hri hev hxl hhf hrs hol HFI HCR HEV
  go_wp2_with fail
  refine HOW.out.mono ?_
  rintro e w4 ⟨A4, n4, c4, rfl, hn4, hn44, ho4, hb4⟩
  have HN4 := Lib.hid hn4
  have HR4 := Lib.hid (RowIn.of_own ho4)
  have HB4 := Lib.hid hb4
  clear hn4 ho4 hb4 HOW
  go_wp2_with fail
  go_loopw [13, 51] (fun v i wr => ∃ (k : Nat) (m : Int), k ≤ n4 ∧ 0 ≤ m ∧ m ≤ 1099511627776 ∧ v = .int .i64 m ∧ i = .int .i64 k ∧ Hid (∀ d ∈ ol.take k, d.e.tick ≤ m) ∧ Hid (Below w4.heap.size w4 wr)) (fun _ i _ => n4 - (intOf i).toNat)
  case atStart => exact ⟨0, 0, Nat.zero_le _, Int.le_refl _, by omega, rfl, rfl, Lib.hid (fun d hd => by simp at hd), Lib.hid (Below.refl _ _)⟩
  case round =>
    obtain ⟨k, m, hk, hm1, hm2, rfl, rfl, hmx, hbw⟩ := hrel
    have hwz := hbw.out.size
    by_cases hlt : k < n4
    · obtain ⟨x, hx⟩ : ∃ x, ol[k]? = some x := ⟨ol[k]'(by rw [← HN4.out]; exact hlt), List.getElem?_eq_getElem _⟩
      obtain ⟨hx1, hx2⟩ := HTB.out x (List.mem_of_getElem? hx)
      have HSN : Hid (ol.take (k + 1) = ol.take k ++ [x]) := Lib.hid (take_snoc hx)
      obtain ⟨g, o, rfl, hgB, hcl⟩ := rds_at HR4.out (by omega)
      obtain ⟨e0, e1, e2, e3, e4, e5, e6, e7, e8⟩ : RdAt wr g (o + k * 9) x := (hcl k x hx).keep (fun j => hbw.out.cell (p := ⟨g, j, none⟩) hgB)
      have hk8 : (k : Int) < (n4 : Int) := by omega
      have hk9 : (0 : Int) ≤ (k : Int) := by omega
      obtain ⟨w5, hw5⟩ : ∃ w5, wr.alloc (.cells (rdAr x) 43) = w5 := ⟨_, rfl⟩
      have HBX : Hid (Blk w5 wr.heap.size 43 (rdAr x)) := Lib.hid (by rw [← hw5]; exact Blk.new _ _ _)
      have HB5 : Hid (Below w4.heap.size w4 w5) := Lib.hid (by rw [← hw5]; exact hbw.out.alloc hwz _)
      have d2' : w5.cell? ⟨wr.heap.size, 2, none⟩ = some (.int .i64 x.e.tick) := HBX.out.cell 2
      unfold rdAr at hw5
      obtain ⟨m', hm'⟩ : ∃ m', max m x.e.tick = m' := ⟨_, rfl⟩
      have hm3 : 0 ≤ m' ∧ m' ≤ 1099511627776 ∧ m ≤ m' ∧ x.e.tick ≤ m' := by omega
      have HMX : Hid (∀ d ∈ ol.take (k + 1), d.e.tick ≤ m') := Lib.hid (fun d hd => by
        rw [HSN.out] at hd
        rcases List.mem_append.1 hd with hd | hd
        · have := hmx.out d hd; omega
        · simp at hd; subst hd; exact hm3.2.2.2)
      clear hcl hx HSN
      go_wp2_with fail
      go_roundw
      case rel => exact ⟨k + 1, m', by omega, hm3.1, hm3.2.1, rfl, by go_num, HMX, HB5⟩
      case measure => simp [intOf]; omega
    · obtain rfl : n4 = k := by omega
      have hta : ol.take n4 = ol := by rw [HN4.out, List.take_length]
      rw [hta] at hmx
      have HLM : Hid (∀ r ∈ ownC rs ps, r.e.tick ≤ m) := Lib.hid (fun r hr => by
        obtain ⟨d, hd, he⟩ := HIN.out r hr
        rw [← he]
        exact hmx.out d hd)
      have HMO : Hid (∀ r ∈ ownC rs ps, mayB r.e = true) := Lib.hid (fun r hr => HMAY.out r (ownC_mem.1 hr).1)
      have HLE : Hid (∀ t, (skL half (m + la + mo) (ownC rs ps)).S t ≤ (skL half (m + la) (ownC rs ps)).S t) := Lib.hid (fun t => sum_le HND.out (fun r hr => giv_mono (by omega) (HMO.out r hr) (by have := HLM.out r hr; omega) (by omega)))
      have HGO : Hid (∀ t, (skL half (m + 21 * half) (ownC rs ps)).S t = 0) := Lib.hid (fun t => sum_zero HND.out (fun r hr => giv_gone (by omega) (by have := HLM.out r hr; omega)))
      have HEA : Hid (∀ t, (skL half (-1) (ownC rs ps)).S t = 0) := Lib.hid (fun t => sum_zero HND.out (fun r hr => giv_early (by have := (may_tick (HMO.out r hr)).1; omega)))
      have HBr : Hid (Below w3.heap.size w3 wr) := Lib.hid (HB4.out.trans (hbw.out.mono HB4.out.size))
      have HT1 := Lib.hid (HT.out wr (m + la) HBr.out (by omega) (by omega))
      clear hta hmx HLM HMO HIN HTB HMAY HND
      go_wp2_with fail
      refine HT1.out.mono ?_
      rintro e w5 ⟨A5, c5, L1, rfl, ht1, hn1, hr1, hb5⟩
      obtain ⟨n1, hn1'⟩ : ∃ n1, L1.length = n1 := ⟨_, rfl⟩
      rw [hn1'] at hn1 hr1 ⊢
      have HN1 := Lib.hid hn1'
      have HR1 := Lib.hid hr1
      have HI1 := Lib.hid ht1
      have HB5 : Hid (Below w3.heap.size w3 w5) := Lib.hid (HBr.out.trans (hb5.mono HBr.out.size))
      have HT2 := Lib.hid (HT.out w5 (m + la + mo) HB5.out (by omega) (by omega))
      clear ht1 hr1 hb5 HT1 hn1'
      go_wp2_with fail
      refine HT2.out.mono ?_
      rintro e w6 ⟨A6, c6, L2, rfl, ht2, hn2, hr2, hb6⟩
      obtain ⟨n2, hn2'⟩ : ∃ n2, L2.length = n2 := ⟨_, rfl⟩
      rw [hn2'] at hn2 hr2 ⊢
      have HN2 := Lib.hid hn2'
      have HR2 := Lib.hid hr2
      have HR1 := Lib.hid (HR1.out.below hb6)
      have HFO : Hid (∀ b ∈ L2, fndB L1 b = true) := Lib.hid (fun b hb => fades_found HI1.out ht2 HLE.out hb)
      have HB6 : Hid (Below w3.heap.size w3 w6) := Lib.hid (HB5.out.trans (hb6.mono HB5.out.size))
      have HZ6 : Hid (w5.heap.size ≤ w6.heap.size) := Lib.hid hb6.size
      clear ht2 hr2 hb6 HT2 hn2' HLE HI1
      go_wp2_with fail
      go_loopw [80] (fun i wq => ∃ k2 : Nat, k2 ≤ n2 ∧ i = .int .i64 k2 ∧ Hid (Below w6.heap.size w6 wq)) (fun i _ => n2 - (intOf i).toNat)
      case atStart => exact ⟨0, Nat.zero_le _, rfl, Lib.hid (Below.refl _ _)⟩
      case round =>
        obtain ⟨k2, hk2, rfl, hbq⟩ := hrel
        obtain ⟨wq, rfl⟩ : ∃ wq : World, wq = wr := ⟨_, rfl⟩
        have hqz := hbq.out.size
        by_cases hlt2 : k2 < n2
        · obtain ⟨b, hb⟩ : ∃ b, L2[k2]? = some b := ⟨L2[k2]'(by rw [HN2.out]; exact hlt2), List.getElem?_eq_getElem _⟩
          have HFB : Hid (fndB L1 b = true) := Lib.hid (HFO.out b (List.mem_of_getElem? hb))
          obtain ⟨g, o, rfl, hgB, hcl⟩ := cts_at HR2.out (by omega)
          have e0 : wq.cell? ⟨g, o + k2 * 2, none⟩ = some (.string b.key) := (hbq.out.cell (p := ⟨g, o + k2 * 2, none⟩) hgB).trans (hcl k2 b hb).1
          have e1 : wq.cell? ⟨g, o + k2 * 2 + 1, none⟩ = some (.int .i64 b.n) := (hbq.out.cell (p := ⟨g, o + k2 * 2 + 1, none⟩) hgB).trans (hcl k2 b hb).2
          have hk8 : (k2 : Int) < (n2 : Int) := by omega
          have hk9 : (0 : Int) ≤ (k2 : Int) := by omega
          obtain ⟨w7, hw7⟩ : ∃ w7, wq.alloc (.cells #[.string b.key, .int .i64 b.n] 45) = w7 := ⟨_, rfl⟩
          have HBX : Hid (Blk w7 wq.heap.size 45 #[.string b.key, .int .i64 b.n]) := Lib.hid (by rw [← hw7]; exact Blk.new _ _ _)
          have HB7 : Hid (Below w6.heap.size w6 w7) := Lib.hid (by rw [← hw7]; exact hbq.out.alloc hqz _)
          clear hcl hb
          go_wp2_with fail
          clear hw7 e0 e1
          obtain ⟨rb, hrb⟩ : ∃ rb, wq.heap.size = rb := ⟨_, rfl⟩
          rw [hrb] at HBX
          rw [hrb]
          clear hrb
          go_loopw [20, 86] (fun v i wp => ∃ (j : Nat) (f : Bool), j ≤ n1 ∧ v = .bool f ∧ i = .int .i64 j ∧ Hid (fndB (L1.take j) b = f) ∧ Hid (Below w7.heap.size w7 wp)) (fun _ i _ => n1 - (intOf i).toNat)
          case atStart => exact ⟨0, false, Nat.zero_le _, rfl, rfl, Lib.hid rfl, Lib.hid (Below.refl _ _)⟩
          case round =>
            obtain ⟨j, f, hj, rfl, rfl, hfn, hbp⟩ := hrel
            obtain ⟨wp, rfl⟩ : ∃ wp : World, wp = wr := ⟨_, rfl⟩
            have hpz := hbp.out.size
            by_cases hjl : j < n1
            · obtain ⟨x, hx⟩ : ∃ x, L1[j]? = some x := ⟨L1[j]'(by rw [HN1.out]; exact hjl), List.getElem?_eq_getElem _⟩
              have HSN : Hid (fndB (L1.take (j + 1)) b = (f || decide (x.key = b.key ∧ b.n ≤ x.n))) := Lib.hid (by rw [take_snoc hx, fndB_snoc, hfn.out])
              have HBp : Hid (Below w6.heap.size w6 wp) := Lib.hid (HB7.out.trans (hbp.out.mono HB7.out.size))
              obtain ⟨g3, o3, rfl, hgB3, hcl3⟩ := cts_at HR1.out (by omega)
              have e0 : wp.cell? ⟨g3, o3 + j * 2, none⟩ = some (.string x.key) := (HBp.out.cell (p := ⟨g3, o3 + j * 2, none⟩) (Nat.lt_of_lt_of_le hgB3 HZ6.out)).trans (hcl3 j x hx).1
              have e1 : wp.cell? ⟨g3, o3 + j * 2 + 1, none⟩ = some (.int .i64 x.n) := (HBp.out.cell (p := ⟨g3, o3 + j * 2 + 1, none⟩) (Nat.lt_of_lt_of_le hgB3 HZ6.out)).trans (hcl3 j x hx).2
              have hj8 : (j : Int) < (n1 : Int) := by omega
              have hj9 : (0 : Int) ≤ (j : Int) := by omega
              obtain ⟨w8, hw8⟩ : ∃ w8, wp.alloc (.cells #[.string x.key, .int .i64 x.n] 45) = w8 := ⟨_, rfl⟩
              have HBY : Hid (Blk w8 wp.heap.size 45 #[.string x.key, .int .i64 x.n]) := Lib.hid (by rw [← hw8]; exact Blk.new _ _ _)
              have HB8 : Hid (Below w7.heap.size w7 w8) := Lib.hid (by rw [← hw8]; exact hbp.out.alloc hpz _)
              have HBZ : Hid (Blk w8 rb 45 #[.string b.key, .int .i64 b.n]) := Lib.hid (HBX.out.kept (below_kept (S := fun _ => False) HB8.out (Nat.le_refl _)) (fun h => h))
              have f0 : w8.cell? ⟨wp.heap.size, 0, none⟩ = some (.string x.key) := HBY.out.cell 0
              have f1 : w8.cell? ⟨wp.heap.size, 1, none⟩ = some (.int .i64 x.n) := HBY.out.cell 1
              have h0 : w8.cell? ⟨rb, 0, none⟩ = some (.string b.key) := HBZ.out.cell 0
              have h1 : w8.cell? ⟨rb, 1, none⟩ = some (.int .i64 b.n) := HBZ.out.cell 1
              clear hcl3 hx
              cases f
              rotate_left
              · have HS1 : Hid (fndB (L1.take (j + 1)) b = true) := Lib.hid (by rw [HSN.out]; rfl)
                clear HSN
                go_wp2_with fail
                go_roundw
                case rel => exact ⟨j + 1, true, by omega, rfl, by go_num, HS1, HB8⟩
                case measure => simp [intOf]; omega
              by_cases q4 : x.key = b.key
              rotate_left
              · have HS1 : Hid (fndB (L1.take (j + 1)) b = false) := Lib.hid (by rw [HSN.out, decide_eq_false (fun h => q4 h.1)]; rfl)
                have s1 := str_f q4
                clear HSN q4
                go_wp2_with fail
                go_roundw
                case rel => exact ⟨j + 1, false, by omega, rfl, by go_num, HS1, HB8⟩
                case measure => simp [intOf]; omega
              have s1 := str_t q4
              by_cases q5 : b.n ≤ x.n
              · have HS1 : Hid (fndB (L1.take (j + 1)) b = true) := Lib.hid (by rw [HSN.out, decide_eq_true ⟨q4, q5⟩]; rfl)
                have s2 : decide (b.n ≤ x.n) = true := decide_eq_true q5
                clear HSN q4
                go_wp2_with fail
                go_roundw
                case rel => exact ⟨j + 1, true, by omega, rfl, by go_num, HS1, HB8⟩
                case measure => simp [intOf]; omega
              · have HS1 : Hid (fndB (L1.take (j + 1)) b = false) := Lib.hid (by rw [HSN.out, decide_eq_false (fun h => q5 h.2)]; rfl)
                have s2 : decide (b.n ≤ x.n) = false := decide_eq_false q5
                clear HSN q4
                go_wp2_with fail
                go_roundw
                case rel => exact ⟨j + 1, false, by omega, rfl, by go_num, HS1, HB8⟩
                case measure => simp [intOf]; omega
            · obtain rfl : n1 = j := by omega
              have hta : L1.take n1 = L1 := by rw [← HN1.out, List.take_length]
              have hff : f = true := by rw [← hfn.out, hta]; exact HFB.out
              subst hff
              clear hta hfn
              go_wp2_with fail
              go_roundw
              case rel => exact ⟨k2 + 1, by omega, by go_num, Lib.hid (HB7.out.trans (hbp.out.mono HB7.out.size))⟩
              case measure => simp [intOf]; omega
        · obtain rfl : n2 = k2 := by omega
          have HBq : Hid (Below w3.heap.size w3 wq) := Lib.hid (HB6.out.trans (hbq.out.mono HB6.out.size))
          have HT3 := Lib.hid (HT.out wq (m + 21 * half) HBq.out (by omega) (by omega))
          go_wp2_with fail
          refine HT3.out.mono ?_
          rintro e w9 ⟨A9, c9, L9, rfl, ht9, hn9, hr9, hb9⟩
          obtain rfl := taste_nil ht9 HGO.out
          have HB9 : Hid (Below w3.heap.size w3 w9) := Lib.hid (HBq.out.trans (hb9.mono HBq.out.size))
          have HT4 := Lib.hid (HT.out w9 (-1) HB9.out (by omega) (by omega))
          clear ht9 hn9 hr9 hb9 HT3
          go_wp2_with fail
          refine HT4.out.mono ?_
          rintro e w10 ⟨A10, c10, L10, rfl, ht10, hn10, hr10, hb10⟩
          obtain rfl := taste_nil ht10 HEA.out
          have HB10 : Hid (Below w3.heap.size w3 w10) := Lib.hid (HB9.out.trans (hb10.mono HB9.out.size))
          have HBX : Hid (Below w.heap.size w w10) := Lib.hid (HB3.out.trans (HB10.out.mono HB3.out.size))
          have HAW := Lib.hid (awake_any w10 (HG.out.keep HBX.out (Nat.le_refl _)))
          clear ht10 hn10 hr10 hb10 HT4
          go_wp2_with fail
          refine HAW.out.mono ?_
          rintro e w11 ⟨rfl, hb11⟩
          have HB11 : Hid (Below w.heap.size w w11) := Lib.hid (HBX.out.trans (hb11.mono HBX.out.size))
          clear hb11 HAW
          go_wp2_with fail
          go_ret
          exact ⟨rfl, HB11.out⟩

end Go.Proofs.YtnkglbiakjnfjaaDoor
