/- CrowdSums: plain, and the walk. -/
import Derived.Test.YtnkglbiakjnfjaaDoorCrFades
namespace Go.Proofs.YtnkglbiakjnfjaaDoor
open Go.Shelf Go.RowKit Go.Maps
set_option linter.unusedVariables false

/-! ### plain -/
def gv (half now : Int) (p t : ByteArray) (r : Rw) : Int := if r.e.person = p then giv half now t r else 0
def sumT (half now : Int) (p t : ByteArray) (l : List Rw) : Int := (skL half now (ownC l p)).S t
theorem sumT_snoc {half now : Int} {p t : ByteArray} {l : List Rw} {r : Rw} (h : NdT (l ++ [r])) : sumT half now p t (l ++ [r]) = sumT half now p t l + gv half now p t r := by
  unfold sumT gv
  rw [ownC_snoc]
  split
  · rename_i hp
    exact sum_snoc (fun x hx => by
      rcases List.mem_append.1 hx with hx | hx
      · exact h x (List.mem_append_left _ (ownC_mem.1 hx).1)
      · exact h x (List.mem_append_right _ hx)) t
  · simp
theorem gv_bd {half now : Int} {p t : ByteArray} {r : Rw} (hm : mayB r.e = true) : 0 ≤ gv half now p t r ∧ gv half now p t r ≤ 5242880 := by
  have h1 : 0 ≤ rowW half now r ∧ rowW half now r ≤ 5242880 := mul_bd (worth_bd hm) (wgt_bd _ _)
  unfold gv giv
  split
  · split
    · exact h1
    · omega
  · omega
theorem gv_one {half now : Int} {p t : ByteArray} {e : Ev} {a b : List ByteArray} (h : ∀ x, x ∈ a ↔ x ∈ b) : gv half now p t ⟨e, a⟩ = gv half now p t ⟨e, b⟩ := by
  unfold gv giv
  rw [show memB t (⟨e, a⟩ : Rw).ts = memB t (⟨e, b⟩ : Rw).ts from memB_congr h]
  rfl
theorem sumT_bd {half now : Int} {p t : ByteArray} {l : List Rw} (hn : NdT l) (hm : ∀ r ∈ l, mayB r.e = true) : 0 ≤ sumT half now p t l ∧ sumT half now p t l ≤ l.length * 5242880 := by
  revert hn hm
  refine snocInd' (p := fun l => NdT l → (∀ r ∈ l, mayB r.e = true) → 0 ≤ sumT half now p t l ∧ sumT half now p t l ≤ l.length * 5242880) l (fun _ _ => by simp [sumT, ownC, skL, sk0]) (fun l r ih hn hm => ?_)
  rw [sumT_snoc hn, List.length_append]
  have h1 := ih (fun x hx => hn x (List.mem_append_left _ hx)) (fun x hx => hm x (List.mem_append_left _ hx))
  have h2 := gv_bd (half := half) (now := now) (p := p) (t := t) (hm r (by simp))
  simp only [List.length_cons, List.length_nil]
  omega
theorem sumT_one {half now : Int} {p t : ByteArray} {e : Ev} {a b : List ByteArray} (ha : a.Nodup) (h : ∀ x, x ∈ a ↔ x ∈ b) : sumT half now p t [⟨e, a⟩] = gv half now p t ⟨e, b⟩ := by
  have := sumT_snoc (half := half) (now := now) (p := p) (t := t) (l := []) (r := ⟨e, a⟩) (fun x hx => by simp at hx; subst hx; exact ha)
  rw [List.nil_append] at this
  rw [this, gv_one h]
  simp [sumT, ownC, skL, sk0]
theorem Tw.mem {a b : List Rw} (h : Tw a b) : ∀ y ∈ b, ∃ r ∈ a, TwR r y := by
  induction h with
  | nil => intro y hy; cases hy
  | snoc h hr ih =>
    intro y hy
    rcases List.mem_append.1 hy with hy | hy
    · obtain ⟨r, h1, h2⟩ := ih y hy
      exact ⟨r, List.mem_append_left _ h1, h2⟩
    · simp at hy; subst hy
      exact ⟨_, List.mem_append_right _ (by simp), hr⟩
theorem of_in {rs : List Rw} {half now : Int} {p t : ByteArray} {L : List Ct} (h : IsTaste rs half p now L) {x : Ct} (hx : x ∈ L) (hk : x.key = t) : x.n = sumT half now p t rs := by
  rw [((h.2 x).1 hx).2, hk]; rfl
theorem of_out {rs : List Rw} {half now : Int} {p t : ByteArray} {L : List Ct} (h : IsTaste rs half p now L) (h0 : 0 ≤ sumT half now p t rs) (hk : ∀ x ∈ L, x.key ≠ t) : sumT half now p t rs = 0 := by
  rcases Int.lt_or_le 0 (sumT half now p t rs) with h1 | h1
  · exact absurd rfl (hk ⟨t, sumT half now p t rs⟩ ((h.2 _).2 ⟨h1, rfl⟩))
  · omega

set_option maxHeartbeats 4000000 in
set_option maxRecDepth 100000 in
theorem of_any (cb : Nat) (half : Int) (U : Nat → Prop) (rs : List Rw) (ps tg : ByteArray) (now : Int) (kb nb tb : Nat) (w : World) (h : CrAt w cb half U rs) (hnd : NdT rs) (hp : ps.size ≤ maxLen) (hh1 : 1 ≤ half) (hh2 : half ≤ 1099511627776) (hb : rs.length ≤ 1000) (hw1 : -4398046511104 ≤ now) (hw2 : now ≤ 4398046511104)
    (hk : w.cell? ⟨kb, 0, none⟩ = some (.string ps)) (hn : w.cell? ⟨nb, 0, none⟩ = some (.int .i64 now)) (ht : w.cell? ⟨tb, 0, none⟩ = some (.string tg)) (htl : tb < w.heap.size) :
    Calls Tryd.prog 19 #[.pointer (some ⟨cb, 0, none⟩), .pointer (some ⟨kb, 0, none⟩), .pointer (some ⟨nb, 0, none⟩), .pointer (some ⟨tb, 0, none⟩)] w fun e w' => e = .returned (.int .i64 (sumT half now ps tg rs)) ∧ Below w.heap.size w w' := by
  have HT := Lib.hid (taste_any w cb half U rs ps now h hp hh1 hh2 hb hw1 hw2)
  have HS0 : Hid (0 ≤ sumT half now ps tg rs) := Lib.hid (sumT_bd hnd (fun r hr => cr_may (h.may r hr))).1
  obtain ⟨S, hS⟩ : ∃ S, sumT half now ps tg rs = S := ⟨_, rfl⟩
  have HSE := Lib.hid hS
  rw [hS]
  have HTB := Lib.hid ht
  clear h hnd hS
  go_enter Tryd.func19, Tryd.ntmps19
  go_wp2_with fail
  refine HT.out.mono ?_
  rintro e w1 ⟨A1, c1, L, rfl, ht1, hn1, hr1, hb1⟩
  obtain ⟨n1, hn1'⟩ : ∃ n1, L.length = n1 := ⟨_, rfl⟩
  rw [hn1'] at hn1 hr1 ⊢
  have HN := Lib.hid hn1'
  have HR := Lib.hid hr1
  have HI := Lib.hid ht1
  have HB1 := Lib.hid hb1
  clear hn1' hr1 ht1 hb1 HT hk hn ht
  go_wp2_with fail
  go_loopw [13] (fun i wr => ∃ k : Nat, k ≤ n1 ∧ i = .int .i64 k ∧ Hid (∀ x ∈ L.take k, x.key ≠ tg) ∧ Hid (Below w1.heap.size w1 wr)) (fun i _ => n1 - (intOf i).toNat)
  case atStart => exact ⟨0, Nat.zero_le _, rfl, Lib.hid (fun x hx => by simp at hx), Lib.hid (Below.refl _ _)⟩
  case round =>
    obtain ⟨k, hk, rfl, hno, hbw⟩ := hrel
    have hwz := hbw.out.size
    have HBw : Hid (Below w.heap.size w wr) := Lib.hid (HB1.out.trans (hbw.out.mono HB1.out.size))
    by_cases hlt : k < n1
    · obtain ⟨x, hx⟩ : ∃ x, L[k]? = some x := ⟨L[k]'(by rw [HN.out]; exact hlt), List.getElem?_eq_getElem _⟩
      have HXM := Lib.hid (List.mem_of_getElem? hx)
      have HSN : Hid (L.take (k + 1) = L.take k ++ [x]) := Lib.hid (take_snoc hx)
      obtain ⟨g, o, rfl, hgB, hcl⟩ := cts_at HR.out (by omega)
      have e0 : wr.cell? ⟨g, o + k * 2, none⟩ = some (.string x.key) := (hbw.out.cell (p := ⟨g, o + k * 2, none⟩) hgB).trans (hcl k x hx).1
      have e1 : wr.cell? ⟨g, o + k * 2 + 1, none⟩ = some (.int .i64 x.n) := (hbw.out.cell (p := ⟨g, o + k * 2 + 1, none⟩) hgB).trans (hcl k x hx).2
      have hk8 : (k : Int) < (n1 : Int) := by omega
      have hk9 : (0 : Int) ≤ (k : Int) := by omega
      obtain ⟨w3, hw3⟩ : ∃ w3, wr.alloc (.cells #[.string x.key, .int .i64 x.n] 45) = w3 := ⟨_, rfl⟩
      have HBX : Hid (Blk w3 wr.heap.size 45 #[.string x.key, .int .i64 x.n]) := Lib.hid (by rw [← hw3]; exact Blk.new _ _ _)
      have HB3 : Hid (Below w1.heap.size w1 w3) := Lib.hid (by rw [← hw3]; exact hbw.out.alloc hwz _)
      have HB3' : Hid (Below w.heap.size w w3) := Lib.hid (HB1.out.trans (HB3.out.mono HB1.out.size))
      have f0 : w3.cell? ⟨wr.heap.size, 0, none⟩ = some (.string x.key) := HBX.out.cell 0
      have f1 : w3.cell? ⟨wr.heap.size, 1, none⟩ = some (.int .i64 x.n) := HBX.out.cell 1
      have f2 : w3.cell? ⟨tb, 0, none⟩ = some (.string tg) := (HB3'.out.cell (p := ⟨tb, 0, none⟩) htl).trans HTB.out
      clear hcl hx
      by_cases q : x.key = tg
      · have HXN : Hid (x.n = S) := Lib.hid (by rw [← HSE.out]; exact of_in HI.out HXM.out q)
        have s1 := str_t q
        clear q
        go_wp2_with fail
        go_ret
        exact ⟨ret_int HXN.out, HB3'.out⟩
      · have HNO : Hid (∀ y ∈ L.take (k + 1), y.key ≠ tg) := Lib.hid (fun y hy => by
          rw [HSN.out] at hy
          rcases List.mem_append.1 hy with hy | hy
          · exact hno.out y hy
          · simp at hy; subst hy; exact q)
        have s1 := str_f q
        clear q
        go_wp2_with fail
        go_roundw
        case rel => exact ⟨k + 1, by omega, by go_num, HNO, HB3⟩
        case measure => simp [intOf]; omega
    · obtain rfl : n1 = k := by omega
      have hta : L.take n1 = L := by rw [← HN.out, List.take_length]
      have HZ : Hid ((0 : Int) = S) := Lib.hid (by rw [← HSE.out]; exact (of_out HI.out HS0.out (by rw [hta] at hno; exact hno.out)).symm)
      clear hta
      go_wp2_with fail
      go_ret
      exact ⟨ret_int HZ.out, HBw.out⟩

set_option maxHeartbeats 8000000 in
set_option maxRecDepth 100000 in
theorem crowdSums_walk (half : Int) (A : Option Addr) (n c : Nat) (l : List Ri) (ps tg : ByteArray) (now : Int) (w : World) (ha : RwArg w A n c l) (hps : ps.size ≤ 140737488355328) (hts : tg.size ≤ 140737488355328) (hg : GlobAt w) :
    Calls Tryd.prog 5 #[.int .i64 half, .slice A n c, .string ps, .string tg, .int .i64 now] w fun e w' => e = .returned (.bool true) ∧ Below w.heap.size w w' := by
  have hpm : ps.size ≤ maxLen := by unfold maxLen; omega
  obtain ⟨u1, hu1⟩ : ∃ u1, w.alloc (.cells #[.string ps] 9) = u1 := ⟨_, rfl⟩
  obtain ⟨u2, hu2⟩ : ∃ u2, u1.alloc (.cells #[.string tg] 9) = u2 := ⟨_, rfl⟩
  obtain ⟨u3, hu3⟩ : ∃ u3, u2.alloc (.cells #[.int .i64 now] 3) = u3 := ⟨_, rfl⟩
  have K1 : Blk u1 w.heap.size 9 #[.string ps] := by rw [← hu1]; exact Blk.new _ _ _
  have K2 : Blk u2 u1.heap.size 9 #[.string tg] := by rw [← hu2]; exact Blk.new _ _ _
  have K3 : Blk u3 u2.heap.size 3 #[.int .i64 now] := by rw [← hu3]; exact Blk.new _ _ _
  have K1' : Blk u3 w.heap.size 9 #[.string ps] := by rw [← hu3, ← hu2]; exact (K1.alloc _).alloc _
  have K2' : Blk u3 u1.heap.size 9 #[.string tg] := by rw [← hu3]; exact K2.alloc _
  have HU : Hid (Below w.heap.size w u3) := Lib.hid (by
    rw [← hu3, ← hu2, ← hu1]
    exact (((Below.refl _ _).alloc (Nat.le_refl _) _).alloc (by simp) _).alloc (by simp; omega) _)
  have HCE : Hid (∀ W, Below u3.heap.size u3 W → World.cell? W ⟨w.heap.size, 0, none⟩ = some (.string ps) ∧ World.cell? W ⟨u1.heap.size, 0, none⟩ = some (.string tg) ∧ World.cell? W ⟨u2.heap.size, 0, none⟩ = some (.int .i64 now) ∧ u1.heap.size < W.heap.size) := Lib.hid (fun W hW => ⟨(hW.cell (p := ⟨w.heap.size, 0, none⟩) K1'.lt).trans (K1'.cell 0), (hW.cell (p := ⟨u1.heap.size, 0, none⟩) K2'.lt).trans (K2'.cell 0), (hW.cell (p := ⟨u2.heap.size, 0, none⟩) K3.lt).trans (K3.cell 0), Nat.lt_of_lt_of_le K2'.lt hW.size⟩)
  have HRW := Lib.hid (rw_below ha HU.out)
  have HLG := Lib.hid (long_any u3 A l n c HRW.out)
  have HG := Lib.hid (hg.keep HU.out (Nat.le_refl _))
  have hmf : ∀ (fn : Fn) (first cap : Array Value) (w : World), (Instr.makeFunc fn first cap).run Tryd.prog w = .ok (.func fn first cap) w := fun _ _ _ _ => rfl
  clear ha hg K1 K2 K3 K1' K2'
  go_enter Tryd.func5, Tryd.ntmps5
  go_wp2_with fail
  clear hu1 hu2 hu3
  refine HLG.out.mono ?_
  rintro e w1 ⟨bl, rfl, hbl, hb1⟩
  have HBu := Lib.hid hb1
  have HB1 : Hid (Below w.heap.size w w1) := Lib.hid (HU.out.trans (hb1.mono HU.out.size))
  have HW1 := Lib.hid (awake_any w1 (HG.out.keep hb1 (Nat.le_refl _)))
  obtain ⟨x1, x2, x3, _⟩ := HCE.out w1 hb1
  clear HLG hb1
  cases bl
  rotate_left
  · go_wp2_with fail
    refine HW1.out.mono ?_
    rintro e w2 ⟨rfl, hb2⟩
    have HB2 : Hid (Below w.heap.size w w2) := Lib.hid (HB1.out.trans (hb2.mono HB1.out.size))
    go_wp2_with fail
    go_ret
    exact ⟨rfl, HB2.out⟩
  have hsm := hbl rfl
  have h40 := hsm.1
  clear hbl
  by_cases q1 : (60 : Int) < (ps.size : Int)
  · go_wp2_with fail
    refine HW1.out.mono ?_
    rintro e w2 ⟨rfl, hb2⟩
    have HB2 : Hid (Below w.heap.size w w2) := Lib.hid (HB1.out.trans (hb2.mono HB1.out.size))
    go_wp2_with fail
    go_ret
    exact ⟨rfl, HB2.out⟩
  have d1 : decide ((60 : Int) < (ps.size : Int)) = false := decide_eq_false q1
  by_cases q2 : (60 : Int) < (tg.size : Int)
  · go_wp2_with fail
    refine HW1.out.mono ?_
    rintro e w2 ⟨rfl, hb2⟩
    have HB2 : Hid (Below w.heap.size w w2) := Lib.hid (HB1.out.trans (hb2.mono HB1.out.size))
    go_wp2_with fail
    go_ret
    exact ⟨rfl, HB2.out⟩
  have d2 : decide ((60 : Int) < (tg.size : Int)) = false := decide_eq_false q2
  by_cases q3 : now < 0
  · go_wp2_with fail
    refine HW1.out.mono ?_
    rintro e w2 ⟨rfl, hb2⟩
    have HB2 : Hid (Below w.heap.size w w2) := Lib.hid (HB1.out.trans (hb2.mono HB1.out.size))
    go_wp2_with fail
    go_ret
    exact ⟨rfl, HB2.out⟩
  have d3 : decide (now < 0) = false := decide_eq_false q3
  by_cases q4 : 2199023255552 < now
  · go_wp2_with fail
    refine HW1.out.mono ?_
    rintro e w2 ⟨rfl, hb2⟩
    have HB2 : Hid (Below w.heap.size w w2) := Lib.hid (HB1.out.trans (hb2.mono HB1.out.size))
    go_wp2_with fail
    go_ret
    exact ⟨rfl, HB2.out⟩
  have d4 : decide (2199023255552 < now) = false := decide_eq_false q4
  have HFI := Lib.hid (fill_any half A n c l w1 (rw_below HRW.out HBu.out) hsm (HG.out.keep HBu.out (Nat.le_refl _)))
  clear HW1 hsm
  go_wp2_with fail
  refine HFI.out.mono ?_
  rintro e w3 ⟨cb, A', n', c', rfl, hfi, hb3⟩
  have HBv : Hid (Below u3.heap.size u3 w3) := Lib.hid (HBu.out.trans (hb3.mono HBu.out.size))
  have HB3 : Hid (Below w.heap.size w w3) := Lib.hid (HB1.out.trans (hb3.mono HB1.out.size))
  obtain ⟨U, V, xl, xs, hcr, hdo, hdj, huv, htw, hri, hev, hxl⟩ := fill_open hfi
  obtain ⟨hf, hhf⟩ : ∃ hf, halfP half = hf := ⟨_, rfl⟩
  have hh : 1 ≤ hf ∧ hf ≤ 1099511627776 := by rw [← hhf]; unfold halfP; omega
  obtain ⟨rs, hrs⟩ : ∃ rs, crowdOf (l.map rwOf) = rs := ⟨_, rfl⟩
  have hn40 : n' ≤ 40 := by
    have h1 := htw.len
    rw [hdo.len] at h1
    have h2 := crowdOf_len (l.map rwOf)
    rw [List.length_map, HRW.out.1] at h2
    omega
  rw [hhf, hrs] at hcr
  rw [hrs] at htw
  have HRL : Hid (rs.length ≤ 1000) := Lib.hid (by rw [htw.len, hdo.len]; omega)
  have HNEW : Hid (∀ W, Calls Tryd.prog 20 #[.int .i64 half] W fun e w' => ∃ cb U, e = .returned (.pointer (some ⟨cb, 0, none⟩)) ∧ CrAt w' cb hf U [] ∧ (∀ q, U q → W.heap.size ≤ q) ∧ Below W.heap.size W w') := Lib.hid (fun W => by rw [← hhf]; exact new_any half W)
  have HNDR : Hid (NdT rs) := Lib.hid htw.nd
  have HXS : Hid (∀ y ∈ xs, crB y.e = true ∧ EvSh y.e ∧ (∀ t ∈ y.ts, t.size ≤ maxLen) ∧ y.ts.length ≤ 1000 ∧ y.ts.Nodup ∧ ∀ t ∈ y.ts, nameB t = true) := Lib.hid (fun y hy => by
    obtain ⟨r, hr, hw⟩ := htw.mem y hy
    have hnm : ∀ t ∈ y.ts, nameB t = true := fun t ht => hcr.tg r hr t ((hw.2.2.2 t).2 ht)
    exact ⟨by rw [← hw.1]; exact hcr.may r hr, by rw [← hw.1]; exact hcr.sh r hr, fun t ht => Nat.le_trans (name_size (hnm t ht)) (by unfold maxLen; omega), (hri y hy).2, hw.2.2.1, hnm⟩)
  have HSUM : Hid (sumT hf now ps tg rs = sumT hf now ps tg xs) := Lib.hid ((htw.own ps).sums hf now tg)
  have HNDX : Hid (NdT xs) := Lib.hid (fun y hy => (HXS.out y hy).2.2.2.2.1)
  have HMX : Hid (∀ y ∈ xs, mayB y.e = true) := Lib.hid (fun y hy => cr_may (HXS.out y hy).1)
  have HCR : Hid (∀ W, Below w3.heap.size w3 W → CrAt W cb hf U rs) := Lib.hid (fun W hW => hcr.below hW)
  have HDO := Lib.hid hdo
  have HXL := Lib.hid hxl
  have HGW : Hid (∀ W, Below w3.heap.size w3 W → GlobAt W) := Lib.hid (fun W hW => HG.out.keep (HBv.out.trans (hW.mono HBv.out.size)) (Nat.le_refl _))
  have HCW : Hid (∀ W, Below w3.heap.size w3 W → World.cell? W ⟨w.heap.size, 0, none⟩ = some (.string ps) ∧ World.cell? W ⟨u1.heap.size, 0, none⟩ = some (.string tg) ∧ World.cell? W ⟨u2.heap.size, 0, none⟩ = some (.int .i64 now) ∧ u1.heap.size < W.heap.size) := Lib.hid (fun W hW => HCE.out W (HBv.out.trans (hW.mono HBv.out.size)))
  have HZ3 := Lib.hid HB3.out.size
  clear hb3 hfi hcr hdo hdj huv htw hri hev hxl hhf hrs HFI x1 x2 x3
  go_wp2_with fail
  go_loopw [14, 50] (fun v i wr => ∃ (k : Nat) (m : Int), k ≤ n' ∧ 0 ≤ m ∧ m ≤ k * 5242880 ∧ v = .int .i64 m ∧ i = .int .i64 k ∧ Hid (sumT hf now ps tg (xs.take k) = m) ∧ Hid (Below w3.heap.size w3 wr)) (fun _ i _ => n' - (intOf i).toNat)
  case atStart => exact ⟨0, 0, Nat.zero_le _, Int.le_refl _, by omega, rfl, rfl, Lib.hid rfl, Lib.hid (Below.refl _ _)⟩
  case round =>
    obtain ⟨k, m, hk, hm1, hm2, rfl, rfl, hsu, hbw⟩ := hrel
    have hwz := hbw.out.size
    by_cases hlt : k < n'
    · obtain ⟨y, hy⟩ : ∃ y, xs[k]? = some y := ⟨xs[k]'(by rw [HDO.out.len]; exact hlt), List.getElem?_eq_getElem _⟩
      obtain ⟨x, hx, hxe, hxn, hxo⟩ := HDO.out.rel.at hy
      have HYX := Lib.hid (HXS.out y (List.mem_of_getElem? hy))
      have HTK : Hid (xs.take (k + 1) = xs.take k ++ [y]) := Lib.hid (take_snoc hy)
      have HNK : Hid (NdT (xs.take k ++ [y])) := Lib.hid (fun z hz => HNDX.out z (by rw [← HTK.out] at hz; exact List.mem_of_mem_take hz))
      have hgb := gv_bd (half := hf) (now := now) (p := ps) (t := tg) (HMX.out y (List.mem_of_getElem? hy))
      obtain ⟨v0, hv0⟩ : ∃ v0, gv hf now ps tg y = v0 := ⟨_, rfl⟩
      rw [hv0] at hgb
      have HSK : Hid (sumT hf now ps tg (xs.take (k + 1)) = m + v0) := Lib.hid (by rw [HTK.out, sumT_snoc HNK.out, hsu.out, hv0])
      have HS1 : Hid (sumT hf now ps tg [⟨x.e, tagsP y.ts⟩] = v0) := Lib.hid (by
        rw [sumT_one (tagsP_is y.ts).1 (b := y.ts) (fun t => by
          rw [(tagsP_is y.ts).2 t]
          exact ⟨fun h => h.1, fun h => ⟨h, HYX.out.2.2.2.2.2 t h⟩⟩), hxe]
        exact hv0)
      obtain ⟨g, o, rfl, hgB, hcl⟩ := rds_at (RowIn.of_own HDO.out.own) (by omega)
      obtain ⟨e0, e1, e2, e3, e4, e5, e6, e7, e8⟩ : RdAt wr g (o + k * 9) x := (hcl k x hx).keep (fun j => hbw.out.cell (p := ⟨g, j, none⟩) hgB)
      have hk8 : (k : Int) < (n' : Int) := by omega
      have hk9 : (0 : Int) ≤ (k : Int) := by omega
      have HXO := Lib.hid hxo
      have HXN := Lib.hid hxn
      have HXE := Lib.hid hxe
      obtain ⟨w5, hw5⟩ : ∃ w5, wr.alloc (.cells (rdAr x) 43) = w5 := ⟨_, rfl⟩
      have HBX : Hid (Blk w5 wr.heap.size 43 (rdAr x)) := Lib.hid (by rw [← hw5]; exact Blk.new _ _ _)
      have HB5 : Hid (Below w3.heap.size w3 w5) := Lib.hid (by rw [← hw5]; exact hbw.out.alloc hwz _)
      unfold rdAr at hw5
      clear hcl hx hy hv0 hxe hxn hxo
      go_wp2_with fail
      clear hw5 e0 e1 e2 e3 e4 e5 e6 e7 e8
      refine (HNEW.out w5).mono ?_
      rintro e w6 ⟨db, U6, rfl, hc6, hu6, hb6⟩
      have HB6 : Hid (Below w3.heap.size w3 w6) := Lib.hid (HB5.out.trans (hb6.mono HB5.out.size))
      have HBY : Hid (Blk w6 wr.heap.size 43 (rdAr x)) := Lib.hid (HBX.out.kept (below_kept (S := fun _ => False) hb6 (Nat.le_refl _)) (fun h => h))
      obtain ⟨f0, f1, f2, f3, f4, f5, f6, f7, f8⟩ := rdAr_at HBY.out
      simp only [Nat.zero_add] at f1 f2 f3 f4 f5 f6 f7 f8
      have HRO : Hid (RowIn w6 w3.heap.size 1 x.A x.n (y.ts.map .string)) := Lib.hid ((RowIn.of_own HXO.out).below HB6.out)
      have HUU : Hid (∀ q, U6 q → w3.heap.size ≤ q) := Lib.hid (fun q hq => Nat.le_trans HB5.out.size (hu6 q hq))
      have HAP := Lib.hid (apply_any w6 db hf U6 [] x.e x.A y.ts x.n x.c hc6 (by rw [HXE.out]; exact HYX.out.2.1) HXN.out.symm (HRO.out.more HB6.out.size) HYX.out.2.2.1 (HGW.out w6 HB6.out) (by simp) (by rw [HXN.out]; exact HYX.out.2.2.2.1) (fun h0 ad had hu => by
        obtain ⟨b0, o0, e0, h1, _⟩ := HRO.out.at h0
        rw [had] at e0
        have : ad.block = b0 := by injection e0 with e0; rw [e0]
        have := HUU.out _ hu
        omega))
      have HTA : Hid (takesC [] x.e = true) := Lib.hid (by unfold takesC lastE; rw [HXE.out, HYX.out.1]; rfl)
      have HAF : Hid (aftC [] ⟨x.e, y.ts⟩ = [⟨x.e, tagsP y.ts⟩]) := Lib.hid (by unfold aftC; rw [show takesC [] (⟨x.e, y.ts⟩ : Rw).e = true from HTA.out]; rfl)
      rw [HTA.out, HAF.out] at HAP
      unfold evA at HAP
      clear hc6 hu6 hb6
      go_wp2_with fail
      clear f0 f1 f2 f3 f4 f5 f6 f7 f8
      refine HAP.out.mono ?_
      rintro e w7 ⟨rfl, U7, hc7, _, _, hk7⟩
      have HB7 : Hid (Below w3.heap.size w3 w7) := Lib.hid (HB6.out.trans (hk7.toBelow HUU.out HB6.out.size))
      obtain ⟨y1, y2, y3, y4⟩ := HCW.out w7 HB7.out
      have HOF := Lib.hid (of_any db hf U7 [⟨x.e, tagsP y.ts⟩] ps tg now w.heap.size u2.heap.size u1.heap.size w7 hc7 (fun z hz => by simp at hz; subst hz; exact (tagsP_is y.ts).1) hpm hh.1 hh.2 (by simp) (by omega) (by omega) y1 y3 y2 y4)
      rw [HS1.out] at HOF
      clear hc7 hk7 y1 y2 y3 y4 HAP
      go_wp2_with fail
      refine HOF.out.mono ?_
      rintro e w8 ⟨rfl, hb8⟩
      have HB8 : Hid (Below w3.heap.size w3 w8) := Lib.hid (HB7.out.trans (hb8.mono HB7.out.size))
      clear hb8 HOF
      go_wp2_with fail
      go_roundw
      case rel => exact ⟨k + 1, m + v0, by omega, by omega, by omega, by go_num, by go_num, HSK, HB8⟩
      case measure => simp [intOf]; omega
    · obtain rfl : n' = k := by omega
      have hta : xs.take n' = xs := by rw [← HDO.out.len, List.take_length]
      rw [hta] at hsu
      obtain ⟨y1, y2, y3, y4⟩ := HCW.out wr hbw.out
      have HOF := Lib.hid (of_any cb hf U rs ps tg now w.heap.size u2.heap.size u1.heap.size wr (HCR.out wr hbw.out) HNDR.out hpm hh.1 hh.2 HRL.out (by omega) (by omega) y1 y3 y2 y4)
      rw [HSUM.out, hsu.out] at HOF
      clear hta y1 y2 y3 y4
      go_wp2_with fail
      refine HOF.out.mono ?_
      rintro e w8 ⟨rfl, hb8⟩
      have HB8 : Hid (Below w3.heap.size w3 w8) := Lib.hid (hbw.out.trans (hb8.mono hbw.out.size))
      have HAW := Lib.hid (awake_any w8 (HGW.out w8 HB8.out))
      have em : (m == m) = true := by simp
      clear hb8 HOF
      go_wp2_with fail
      refine HAW.out.mono ?_
      rintro e w9 ⟨rfl, hb9⟩
      have HB9 : Hid (Below w3.heap.size w3 w9) := Lib.hid (HB8.out.trans (hb9.mono HB8.out.size))
      clear hb9 HAW
      go_wp2_with fail
      go_ret
      exact ⟨rfl, HB3.out.trans (HB9.out.mono HZ3.out)⟩

end Go.Proofs.YtnkglbiakjnfjaaDoor
