/- CrowdTags: plain, and the walk. -/
import Derived.Test.YtnkglbiakjnfjaaDoorCrL
namespace Go.Proofs.YtnkglbiakjnfjaaDoor
open Go.Shelf Go.RowKit Go.Maps
set_option linter.unusedVariables false

/-! ### plain -/
theorem skT_fold {ts : List ByteArray} (hnd : ts.Nodup) (n : Int) (s : Sk) (t : ByteArray) : (ts.foldl (skT n) s).S t = s.S t + if memB t ts = true then n else 0 := by
  revert hnd
  refine snocInd' (p := fun ts => ts.Nodup → (ts.foldl (skT n) s).S t = s.S t + if memB t ts = true then n else 0) ts (fun _ => by simp [memB]) (fun ts a ih hnd => ?_)
  rw [List.nodup_append] at hnd
  obtain ⟨h1, _, h3⟩ := hnd
  rw [List.foldl_append]
  show (if t = a then (ts.foldl (skT n) s).S a + n else (ts.foldl (skT n) s).S t) = _
  by_cases e : t = a
  · subst e
    have hn : memB t ts = false := by
      cases hm : memB t ts
      · rfl
      · exact absurd rfl (h3 t ((memB_iff _ _).1 hm) t (by simp))
    have hy : memB t (ts ++ [t]) = true := (memB_iff _ _).2 (by simp)
    rw [if_pos rfl, ih h1, hn, hy]
    simp
  · have : memB t (ts ++ [a]) = memB t ts := by
      rw [Bool.eq_iff_iff, memB_iff, memB_iff]
      simp [e]
    rw [if_neg e, ih h1, this]
theorem skR_S {half now : Int} {s : Sk} {r : Rw} (hnd : r.ts.Nodup) (t : ByteArray) : (skR half now s r).S t = s.S t + if (decide (r.e.tick ≤ now) && memB t r.ts) = true then rowW half now r else 0 := by
  unfold skR
  by_cases h : r.e.tick ≤ now
  · rw [if_pos h, skT_fold hnd]
    simp [h]
  · rw [if_neg h]; simp [h]
theorem memB_congr {a b : List ByteArray} (h : ∀ t, t ∈ a ↔ t ∈ b) {t : ByteArray} : memB t a = memB t b := Bool.eq_iff_iff.2 (by rw [memB_iff, memB_iff]; exact h t)
/-- Rows of the same events, with the same tags. -/
def TwR (r r' : Rw) : Prop := r.e = r'.e ∧ r.ts.Nodup ∧ r'.ts.Nodup ∧ ∀ t, t ∈ r.ts ↔ t ∈ r'.ts
inductive Tw : List Rw → List Rw → Prop
  | nil : Tw [] []
  | snoc {a b : List Rw} {r r' : Rw} : Tw a b → TwR r r' → Tw (a ++ [r]) (b ++ [r'])
theorem Tw.last {a b : List Rw} (h : Tw a b) : lastE a = lastE b := by
  cases h with
  | nil => rfl
  | snoc h hr => unfold lastE; simp [hr.1]
theorem Tw.own {a b : List Rw} (h : Tw a b) (p : ByteArray) : Tw (ownC a p) (ownC b p) := by
  induction h with
  | nil => exact Tw.nil
  | snoc h hr ih =>
    rw [ownC_snoc, ownC_snoc, hr.1]
    split
    · exact ih.snoc hr
    · exact ih
theorem Tw.sums {a b : List Rw} (h : Tw a b) (half now : Int) (t : ByteArray) : (skL half now a).S t = (skL half now b).S t := by
  induction h with
  | nil => rfl
  | snoc h hr ih =>
    rw [skL_snoc, skL_snoc, skR_S hr.2.1, skR_S hr.2.2.1, ih, memB_congr hr.2.2.2]
    unfold rowW
    rw [hr.1]
theorem Tw.takes {a b : List Rw} (h : Tw a b) (e : Ev) : takesC a e = takesC b e := by unfold takesC; rw [h.last]
theorem Tw.aft {a b : List Rw} (h : Tw a b) (e : Ev) {ts us : List ByteArray} (hs : ∀ t, nameB t = true → (t ∈ ts ↔ t ∈ us)) : Tw (aftC a ⟨e, ts⟩) (aftC b ⟨e, us⟩) := by
  unfold aftC
  show Tw (if takesC a e then _ else _) (if takesC b e then _ else _)
  rw [h.takes e]
  split
  · refine h.snoc ⟨rfl, (tagsP_is ts).1, (tagsP_is us).1, fun t => ?_⟩
    rw [(tagsP_is ts).2, (tagsP_is us).2]
    constructor
    · rintro ⟨h1, h2⟩; exact ⟨(hs t h2).1 h1, h2⟩
    · rintro ⟨h1, h2⟩; exact ⟨(hs t h2).2 h1, h2⟩
  · exact h
theorem aft_len (rs : List Rw) (r : Rw) : (aftC rs r).length ≤ rs.length + 1 := by
  unfold aftC
  split <;> simp
/-- Tags turned round, and told twice. -/
def turnP (ts : List ByteArray) (j : Nat) : List ByteArray := [⟨#[]⟩, ⟨#[78, 79, 78, 69]⟩] ++ (List.range j).flatMap fun i => [ts.getD (ts.length - 1 - i) ⟨#[]⟩, ts.getD i ⟨#[]⟩]
theorem turnP_succ (ts : List ByteArray) (j : Nat) : turnP ts (j + 1) = turnP ts j ++ [ts.getD (ts.length - 1 - j) ⟨#[]⟩, ts.getD j ⟨#[]⟩] := by
  unfold turnP
  rw [List.range_succ, List.flatMap_append, List.append_assoc]
  simp
theorem turnP_len (ts : List ByteArray) (j : Nat) : (turnP ts j).length = 2 + 2 * j := by
  induction j with
  | zero => rfl
  | succ j ih => rw [turnP_succ, List.length_append, ih]; simp; omega
theorem turnP_mem (ts : List ByteArray) (t : ByteArray) (hn : nameB t = true) : t ∈ ts ↔ t ∈ turnP ts ts.length := by
  unfold turnP
  rw [List.mem_append, List.mem_flatMap]
  have m0 : nameB ⟨#[]⟩ = false := by kernel_rfl
  have m1 : nameB ⟨#[78, 79, 78, 69]⟩ = false := by kernel_rfl
  have n0 : t ≠ ⟨#[]⟩ := fun e => by rw [e, m0] at hn; cases hn
  have n1 : t ≠ ⟨#[78, 79, 78, 69]⟩ := fun e => by rw [e, m1] at hn; cases hn
  constructor
  · intro h
    obtain ⟨j, hj⟩ := List.mem_iff_getElem?.1 h
    have hl := (List.getElem?_eq_some_iff.1 hj).1
    exact Or.inr ⟨j, List.mem_range.2 hl, by simp [List.getD_eq_getElem?_getD, hj]⟩
  · rintro (h | ⟨j, hj, h⟩)
    · simp at h
      rcases h with h | h
      · exact absurd h n0
      · exact absurd h n1
    · have hl := List.mem_range.1 hj
      simp only [List.mem_cons, List.not_mem_nil, or_false, List.getD_eq_getElem?_getD] at h
      rcases h with h | h
      · rw [List.getElem?_eq_getElem (by omega)] at h; rw [h]; exact List.getElem_mem _
      · rw [List.getElem?_eq_getElem hl] at h; rw [h]; exact List.getElem_mem _
theorem turnP_all {ts : List ByteArray} {B : Nat} (h : ∀ t ∈ ts, t.size ≤ B) (hB : 4 ≤ B) (j : Nat) (hj : j ≤ ts.length) : ∀ t ∈ turnP ts j, t.size ≤ B := by
  intro t ht
  unfold turnP at ht
  rw [List.mem_append, List.mem_flatMap] at ht
  rcases ht with ht | ⟨i, hi, ht⟩
  · simp at ht
    rcases ht with rfl | rfl
    · exact Nat.zero_le _
    · exact hB
  · have hl := List.mem_range.1 hi
    simp only [List.mem_cons, List.not_mem_nil, or_false, List.getD_eq_getElem?_getD] at ht
    rcases ht with rfl | rfl
    · rw [List.getElem?_eq_getElem (by omega)]; exact h _ (List.getElem_mem _)
    · rw [List.getElem?_eq_getElem (by omega)]; exact h _ (List.getElem_mem _)
theorem two_str (w : World) (a b : ByteArray) (t : TypeId) : RowIn (w.alloc (.cells #[.string a, .string b] t)) (w.heap.size + 1) 1 (some ⟨w.heap.size, 0, none⟩) 2 [.string a, .string b] := by
  refine ⟨rfl, Or.inr ⟨w.heap.size, 0, rfl, by omega, fun j u hu => ?_⟩⟩
  rw [(Blk.new w t _).cell]
  rw [← hu, Nat.zero_add]
  simp
theorem cell_drw (w : World) (p : Addr) : World.cell? w.drew p = w.cell? p := rfl
/-- A row as it lies in its own block. -/
def BoxR (W : World) (rb : Nat) (rd : Rd) (m : Nat) : Prop := World.cell? W ⟨rb, 0, none⟩ = some (.string rd.e.src) ∧ World.cell? W ⟨rb, 1, none⟩ = some (.int .i64 rd.e.num) ∧ World.cell? W ⟨rb, 2, none⟩ = some (.int .i64 rd.e.tick) ∧ World.cell? W ⟨rb, 3, none⟩ = some (.int .i64 rd.e.kind) ∧ World.cell? W ⟨rb, 4, none⟩ = some (.string rd.e.person) ∧ World.cell? W ⟨rb, 5, none⟩ = some (.string rd.e.item) ∧ World.cell? W ⟨rb, 6, none⟩ = some (.int .i64 rd.e.value) ∧ World.cell? W ⟨rb, 7, none⟩ = some (.string rd.e.text) ∧ World.cell? W ⟨rb, 8, none⟩ = some (.slice rd.A m rd.c)
theorem boxr_of {W : World} {rb : Nat} {rd : Rd} {m : Nat} {t : TypeId} (h : Blk W rb t (rdAr rd)) (hm : rd.n = m) : BoxR W rb rd m := by
  subst hm
  exact ⟨h.cell 0, h.cell 1, h.cell 2, h.cell 3, h.cell 4, h.cell 5, h.cell 6, h.cell 7, h.cell 8⟩
/-- Two crowds of the same rows, but for how their tags were told. -/
def TwIn (w wr : World) (c1 c2 : Nat) (hf : Int) (k : Nat) : Prop := ∃ (U1 U2 : Nat → Prop) (r1 r2 : List Rw), CrAt wr c1 hf U1 r1 ∧ CrAt wr c2 hf U2 r2 ∧ (∀ q, U1 q → ¬ U2 q) ∧ (∀ q, U1 q ∨ U2 q → w.heap.size ≤ q) ∧ Tw r1 r2 ∧ r1.length ≤ k ∧ r2.length ≤ k

set_option maxHeartbeats 16000000 in
set_option maxRecDepth 100000 in
theorem crowdTags_walk (half : Int) (A : Option Addr) (n c : Nat) (l : List Ri) (ps : ByteArray) (now : Int) (w : World) (ha : RwArg w A n c l) (hps : ps.size ≤ 140737488355328) (hg : GlobAt w) :
    Calls Tryd.prog 6 #[.int .i64 half, .slice A n c, .string ps, .int .i64 now] w fun e w' => e = .returned (.bool true) ∧ Below w.heap.size w w' := by
  have HLG := Lib.hid (long_any w A l n c ha)
  obtain ⟨hn, hl, hnb, hnil, hok⟩ := ha
  have HN := Lib.hid hn
  have HL := Lib.hid hl
  have HOK := Lib.hid hok
  have HG := Lib.hid hg
  have hpm : ps.size ≤ maxLen := by unfold maxLen; omega
  clear hn hl hok hg
  go_enter Tryd.func6, Tryd.ntmps6
  go_wp2_with fail
  refine HLG.out.mono ?_
  rintro e w1 ⟨bl, rfl, hbl, hb1⟩
  have HB1 := Lib.hid hb1
  have HW1 := Lib.hid (awake_any w1 (HG.out.keep hb1 (Nat.le_refl _)))
  clear HLG hb1
  cases bl
  rotate_left
  · go_wp2_with fail
    refine HW1.out.mono ?_
    rintro e w2 ⟨rfl, hb2⟩
    have HB2 : Hid (Below w.heap.size w w2) := Lib.hid (HB1.out.trans (hb2.mono HB1.out.size))
    go_wp2_with fail
    go_ret
    exact ⟨rfl, HB2.out⟩
  obtain ⟨h40, hsm⟩ := hbl rfl
  have HSM := Lib.hid hsm
  clear hbl hsm
  by_cases q1 : (60 : Int) < (ps.size : Int)
  · go_wp2_with fail
    refine HW1.out.mono ?_
    rintro e w2 ⟨rfl, hb2⟩
    have HB2 : Hid (Below w.heap.size w w2) := Lib.hid (HB1.out.trans (hb2.mono HB1.out.size))
    go_wp2_with fail
    go_ret
    exact ⟨rfl, HB2.out⟩
  have d1 : decide ((60 : Int) < (ps.size : Int)) = false := decide_eq_false q1
  by_cases q2 : now < 0
  · go_wp2_with fail
    refine HW1.out.mono ?_
    rintro e w2 ⟨rfl, hb2⟩
    have HB2 : Hid (Below w.heap.size w w2) := Lib.hid (HB1.out.trans (hb2.mono HB1.out.size))
    go_wp2_with fail
    go_ret
    exact ⟨rfl, HB2.out⟩
  have d2 : decide (now < 0) = false := decide_eq_false q2
  by_cases q3 : 2199023255552 < now
  · go_wp2_with fail
    refine HW1.out.mono ?_
    rintro e w2 ⟨rfl, hb2⟩
    have HB2 : Hid (Below w.heap.size w w2) := Lib.hid (HB1.out.trans (hb2.mono HB1.out.size))
    go_wp2_with fail
    go_ret
    exact ⟨rfl, HB2.out⟩
  have d3 : decide (2199023255552 < now) = false := decide_eq_false q3
  have HN1 := Lib.hid (new_any half w1)
  obtain ⟨hf, hhf⟩ : ∃ hf, halfP half = hf := ⟨_, rfl⟩
  have HHB : Hid (1 ≤ hf ∧ hf ≤ 1099511627776) := Lib.hid (by rw [← hhf]; unfold halfP; omega)
  have HHF := Lib.hid hhf
  rw [hhf] at HN1
  clear HW1 hhf
  go_wp2_with fail
  refine HN1.out.mono ?_
  rintro e w2 ⟨c1, U1, rfl, hc1, hu1, hb2⟩
  have HB2 : Hid (Below w.heap.size w w2) := Lib.hid (HB1.out.trans (hb2.mono HB1.out.size))
  have HC1 := Lib.hid hc1
  have HU1 : Hid (∀ q, U1 q → w.heap.size ≤ q) := Lib.hid (fun q hq => Nat.le_trans HB1.out.size (hu1 q hq))
  have HN2 := Lib.hid (new_any half w2)
  rw [HHF.out] at HN2
  clear hc1 hu1 hb2 HN1
  go_wp2_with fail
  refine HN2.out.mono ?_
  rintro e w3 ⟨c2, U2, rfl, hc2, hu2, hb3⟩
  have HB3 : Hid (Below w.heap.size w w3) := Lib.hid (HB2.out.trans (hb3.mono HB2.out.size))
  have HTW : Hid (TwIn w w3 c1 c2 hf 0) := Lib.hid ⟨U1, U2, [], [], HC1.out.below hb3, hc2, fun q h1 h2 => by have := HC1.out.lt q h1; have := hu2 q h2; omega, fun q hq => hq.elim (HU1.out q) (fun h => Nat.le_trans HB2.out.size (hu2 q h)), Tw.nil, Nat.le_refl _, Nat.le_refl _⟩
  obtain ⟨i0, hi0, hz0, hz1, hz2⟩ := info_parts str_info
  clear hc2 hu2 hb3 HN2 HC1 HU1
  go_wp2_with fail
  go_loopw [43] (fun i wr => ∃ k : Nat, k ≤ n ∧ i = .int .i64 k ∧ Hid (TwIn w wr c1 c2 hf k) ∧ Hid (Below w.heap.size w wr)) (fun i _ => n - (intOf i).toNat)
  case atStart => exact ⟨0, Nat.zero_le _, rfl, HTW, HB3⟩
  case round =>
    clear HTW HB3
    obtain ⟨k, hk, rfl, htw, hbw⟩ := hrel
    obtain ⟨wo, rfl⟩ : ∃ wo : World, wo = wr := ⟨_, rfl⟩
    by_cases hlt : k < n
    · obtain ⟨x, hx⟩ : ∃ x, l[k]? = some x := ⟨l[k]'(by rw [HN.out]; exact hlt), List.getElem?_eq_getElem _⟩
      obtain ⟨g, o, rfl, hgB, hcl⟩ := rds_at HL.out (by omega)
      obtain ⟨e0, e1, e2, e3, e4, e5, e6, e7, e8⟩ : RdAt wo g (o + k * 9) x.1 := (hcl k x.1 (by simp [hx])).keep (fun j => hbw.out.cell (p := ⟨g, j, none⟩) hgB)
      have HXO := Lib.hid (HOK.out x (List.mem_of_getElem? hx))
      have HXS := Lib.hid (HSM.out x (List.mem_of_getElem? hx))
      obtain ⟨rd, ts⟩ := x
      obtain ⟨xb, xn, xr, _, _, xt⟩ := HXO.out
      dsimp only at xn xr xt e0 e1 e2 e3 e4 e5 e6 e7 e8
      have HXN := Lib.hid xn
      have HXR := Lib.hid xr
      have HXT : Hid (∀ t ∈ ts, t.size ≤ maxLen) := Lib.hid xt
      have HSH : Hid (EvSh rd.e) := Lib.hid HXS.out.2
      obtain ⟨m, hm⟩ : ∃ m, ts.length = m := ⟨_, rfl⟩
      have HML := Lib.hid hm
      have hm12 : m ≤ 12 := by rw [← hm]; exact HXS.out.1
      have HRN : Hid (rd.n = m) := Lib.hid (by rw [HXN.out, hm])
      have hk8 : (k : Int) < (n : Int) := by omega
      have hk9 : (0 : Int) ≤ (k : Int) := by omega
      have hwz := hbw.out.size
      rw [HRN.out] at e8 HXR
      obtain ⟨w4, hw4⟩ : ∃ w4, wo.alloc (.cells (rdAr rd) 51) = w4 := ⟨_, rfl⟩
      have HBX : Hid (Blk w4 wo.heap.size 51 (rdAr rd)) := Lib.hid (by rw [← hw4]; exact Blk.new _ _ _)
      have HB4 : Hid (Below w.heap.size w w4) := Lib.hid (by rw [← hw4]; exact hbw.out.alloc hwz _)
      have HR4 : Hid (Below wo.heap.size wo w4) := Lib.hid (by rw [← hw4]; exact (Below.refl _ _).alloc (Nat.le_refl _) _)
      have d8 : w4.cell? ⟨wo.heap.size, 8, none⟩ = some (.slice rd.A m rd.c) := by have := HBX.out.cell 8; rw [this]; simp [rdAr, HRN.out]
      obtain ⟨w5, hw5⟩ : ∃ w5, w4.alloc (.cells #[.string ⟨#[]⟩, .string ⟨#[78, 79, 78, 69]⟩] 9) = w5 := ⟨_, rfl⟩
      have HO5 : Hid (w5.ownsRow w4.heap.size 9 1 (.slice (some ⟨w4.heap.size, 0, none⟩) 2 2) (2 + 2 * 0) ((turnP ts 0).map .string)) := Lib.hid (by rw [← hw5]; exact World.ownsRow_lit w4 #[.string ⟨#[]⟩, .string ⟨#[78, 79, 78, 69]⟩] 2 (Nat.le_refl _) (by unfold maxLen; omega) rfl)
      have HB5 : Hid (Below w4.heap.size w4 w5) := Lib.hid (by rw [← hw5]; exact (Below.refl _ _).alloc (Nat.le_refl _) _)
      have f8 : w5.cell? ⟨wo.heap.size, 8, none⟩ = some (.slice rd.A m rd.c) := (HB5.out.cell (p := ⟨wo.heap.size, 8, none⟩) HBX.out.lt).trans d8
      have HRA : Hid (rdAr rd = #[.string rd.e.src, .int .i64 rd.e.num, .int .i64 rd.e.tick, .int .i64 rd.e.kind, .string rd.e.person, .string rd.e.item, .int .i64 rd.e.value, .string rd.e.text, .slice rd.A m rd.c]) := Lib.hid (by unfold rdAr; rw [HRN.out])
      rw [HRA.out] at hw4
      clear hcl hx xb xn xr xt hm
      go_wp2_with fail
      clear hw4 hw5 d8 f8 e0 e1 e2 e3 e4 e5 e6 e7 e8
      obtain ⟨rb, hrb⟩ : ∃ rb, wo.heap.size = rb := ⟨_, rfl⟩
      rw [hrb] at HBX
      rw [hrb]
      have HRB := Lib.hid hrb
      clear hrb
      go_loopw [13, 51] (fun v i wq => ∃ j : Nat, j ≤ m ∧ i = .int .i64 j ∧ Hid (wq.ownsRow w4.heap.size 9 1 v (2 + 2 * j) ((turnP ts j).map .string)) ∧ Hid (Below w4.heap.size w4 wq)) (fun _ i _ => m - (intOf i).toNat)
      case atStart => exact ⟨0, Nat.zero_le _, rfl, HO5, HB5⟩
      case round =>
        clear HO5 HB5
        obtain ⟨j, hj, rfl, hrow, hb4q⟩ := hrel
        obtain ⟨A7, c7, hq⟩ := own_shape hrow.out
        rw [hq] at hrow ⊢
        clear hq
        obtain ⟨wq, rfl⟩ : ∃ wq : World, wq = wr := ⟨_, rfl⟩
        have HBq : Hid (Below w.heap.size w wq) := Lib.hid (HB4.out.trans (hb4q.out.mono HB4.out.size))
        have HBXq : Hid (Blk wq rb 51 (rdAr rd)) := Lib.hid (HBX.out.kept (below_kept (S := fun _ => False) hb4q.out (Nat.le_refl _)) (fun h => h))
        have hzq := hb4q.out.size
        by_cases hlt2 : j < m
        · obtain ⟨gt, ot, hAt, hgt, hct⟩ := HXR.out.at (by omega)
          obtain ⟨ta, hta⟩ : ∃ ta, ts[m - 1 - j]? = some ta := ⟨ts[m - 1 - j]'(by rw [HML.out]; omega), List.getElem?_eq_getElem _⟩
          obtain ⟨tb, htb⟩ : ∃ tb, ts[j]? = some tb := ⟨ts[j]'(by rw [HML.out]; omega), List.getElem?_eq_getElem _⟩
          have HTS : Hid (turnP ts (j + 1) = turnP ts j ++ [ta, tb]) := Lib.hid (by rw [turnP_succ, HML.out]; simp [List.getD_eq_getElem?_getD, hta, htb])
          have HSC : Hid (∀ W, Below w.heap.size w W ∧ World.cell? W ⟨rb, 8, none⟩ = some (.slice (some ⟨gt, ot, none⟩) m rd.c) → World.cell? W ⟨rb, 8, none⟩ = some (.slice (some ⟨gt, ot, none⟩) m rd.c) ∧ World.cell? W ⟨gt, ot + (m - 1 - j), none⟩ = some (.string ta) ∧ World.cell? W ⟨gt, ot + j, none⟩ = some (.string tb)) := Lib.hid (fun W hW => ⟨hW.2, (hW.1.cell (p := ⟨gt, ot + (m - 1 - j), none⟩) hgt).trans (hct _ _ (by simp [hta])), (hW.1.cell (p := ⟨gt, ot + j, none⟩) hgt).trans (hct _ _ (by simp [htb]))⟩)
          have HS0 : Hid (Below w.heap.size w wq.drew ∧ World.cell? wq.drew ⟨rb, 8, none⟩ = some (.slice (some ⟨gt, ot, none⟩) m rd.c)) := Lib.hid ⟨below_drew HBq.out, by have := HBXq.out.cell 8; rw [cell_drw, this]; simp [rdAr, HRN.out, hAt]⟩
          have hj8 : (j : Int) < (m : Int) := by omega
          have hj9 : (0 : Int) ≤ (j : Int) := by omega
          obtain ⟨q, hqq⟩ : ∃ q, m - 1 - j = q := ⟨_, rfl⟩
          rw [hqq] at HSC
          have hx1 : (0 : Int) ≤ (q : Int) := by omega
          have hx2 : (q : Int) < (m : Int) := by omega
          have hwa : IntKind.i64.wrap ((m : Int) - 1) = (m : Int) - 1 := IntWalk.i64_in _ (by omega)
          have hwb : IntKind.i64.wrap ((m : Int) - 1 - (j : Int)) = (q : Int) := by rw [show (m : Int) - 1 - (j : Int) = (q : Int) by omega]; exact IntWalk.i64_in _ (by omega)
          have HRL : Hid (rb < w4.heap.size) := Lib.hid HBX.out.lt
          clear hta htb hct hqq
          go_wp2_with fail
          refine wp_planN (fun W => Below w.heap.size w W ∧ World.cell? W ⟨rb, 8, none⟩ = some (.slice (some ⟨gt, ot, none⟩) m rd.c)) [(0, 1), (1, 1), (2, 1), (3, 1), (4, 1), (5, 1), (6, 1), (7, 1), (8, 1), (9, 1), (10, 1), (11, 1), (12, 1), (13, 1), (14, 1), (15, 1), (16, 2), (17, 3), (18, 0)] (by kernel_rfl) (by kernel_rfl) HS0.out ?_
          simp only [planNL, List.getElem?_cons_zero, List.getElem?_cons_succ]
          repeat (first | (refine planN_on _ (by rfl) (fun W hW => by (obtain ⟨x0, x1, x2⟩ := HSC.out W hW; go_simp; try with_reducible rfl)) ?_; simp only [Act.put, List.setIfInBounds_toArray, List.set_cons_zero, List.set_cons_succ]) | (refine planN_off (by rfl) ?_; simp only [Act.put, List.setIfInBounds_toArray, List.set_cons_zero, List.set_cons_succ]) | (refine planN_on0 _ (by rfl) (fun W hW => by (go_simp; try with_reducible rfl)) ?_; simp only [Act.put, List.setIfInBounds_toArray, List.set_cons_zero, List.set_cons_succ]))
          refine planN_turn ?_
          go_wp2_with fail
          obtain ⟨w8, hw8⟩ : ∃ w8, (wq.alloc (.cells #[.string ta, .string tb] 9)).drew = w8 := ⟨_, rfl⟩
          rw [hw8]
          have HB8 : Hid (Below w4.heap.size w4 w8) := Lib.hid (by rw [← hw8]; exact below_drew (hb4q.out.alloc hzq _))
          have HO8 : Hid (w8.ownsRow w4.heap.size 9 1 (.slice A7 (2 + 2 * j) c7) (2 + 2 * j) ((turnP ts j).map .string)) := Lib.hid (by rw [← hw8]; exact hrow.out.alloc _)
          have HR8 : Hid (RowIn w8 (wq.heap.size + 1) 1 (some ⟨wq.heap.size, 0, none⟩) 2 [.string ta, .string tb]) := Lib.hid (by rw [← hw8]; exact two_str wq ta tb _)
          have HS8 : Hid (Below w.heap.size w w8 ∧ World.cell? w8 ⟨rb, 8, none⟩ = some (.slice (some ⟨gt, ot, none⟩) m rd.c)) := Lib.hid ⟨HB4.out.trans (HB8.out.mono HB4.out.size), (HB8.out.cell (p := ⟨rb, 8, none⟩) HRL.out).trans (by have := HBX.out.cell 8; rw [this]; simp [rdAr, HRN.out, hAt])⟩
          have HZ8 := Lib.hid HB8.out.size
          clear hw8
          refine ⟨HS8.out, ?_⟩
          refine planN_last ?_
          go_wp2_with (first
            | (at_builtin; refine wpList_append_row _ rfl _ _ 41 rfl w4.heap.size 9 i0 _ 1 16 Tryd.underlying41 hi0 hz0 hz1 hz2 rfl (by omega) (.slice A7 (2 + 2 * j) c7) (2 + 2 * j) _ rfl HO8.out (wq.heap.size + 1) (some ⟨wq.heap.size, 0, none⟩) 2 2 [.string ta, .string tb] rfl HR8.out (fun h => by cases h) (fun u hu => by simp at hu; rcases hu with rfl | rfl <;> rfl) (by unfold maxLen; omega) (by omega) HZ8.out ?_; intro v9 w9 ho9 hg9 hv9))
          have HB9 : Hid (Below w4.heap.size w4 w9) := Lib.hid (HB8.out.grown hg9 HB8.out.size (fun q hq => (HO8.out.lt q hq).1))
          have HO9 : Hid (w9.ownsRow w4.heap.size 9 1 v9 (2 + 2 * (j + 1)) ((turnP ts (j + 1)).map .string)) := Lib.hid (by rw [HTS.out, List.map_append]; exact ho9)
          clear ho9 hg9 hv9 hx1 hx2 hwa hwb
          repeat (first | (refine planN_on _ (by rfl) (fun W hW => by (obtain ⟨x0, x1, x2⟩ := HSC.out W hW; go_simp; try with_reducible rfl)) ?_; simp only [Act.put, List.setIfInBounds_toArray, List.set_cons_zero, List.set_cons_succ]) | (refine planN_off (by rfl) ?_; simp only [Act.put, List.setIfInBounds_toArray, List.set_cons_zero, List.set_cons_succ]) | (refine planN_on0 _ (by rfl) (fun W hW => by (go_simp; try with_reducible rfl)) ?_; simp only [Act.put, List.setIfInBounds_toArray, List.set_cons_zero, List.set_cons_succ]))
          refine planN_done ?_
          go_wp2_with fail
          go_roundw
          case rel => exact ⟨j + 1, by omega, by go_num, HO9, HB9⟩
          case measure => simp [intOf]; omega
        obtain rfl : m = j := by omega
        obtain ⟨U1, U2, r1, r2, hc1, hc2, hdj, hub, htt, hl1, hl2⟩ := htw.out
        have HRq : Hid (Below wo.heap.size wo wq) := Lib.hid (HR4.out.trans (hb4q.out.mono HR4.out.size))
        have HQ1 : Hid (CrAt wq.drew c1 hf U1 r1) := Lib.hid ((hc1.below HRq.out).drewN 1)
        have HQ2 : Hid (CrAt wq.drew c2 hf U2 r2) := Lib.hid ((hc2.below HRq.out).drewN 1)
        have HUL : Hid (∀ q, U1 q ∨ U2 q → w.heap.size ≤ q ∧ q < rb) := Lib.hid (fun q hq => ⟨hub q hq, by rw [← HRB.out]; exact hq.elim (hc1.lt q) (hc2.lt q)⟩)
        have HDJ := Lib.hid hdj
        have HTT := Lib.hid htt
        have HR4z : Hid (rb ≤ w4.heap.size) := Lib.hid (Nat.le_of_lt HBX.out.lt)
        have HTR : Hid (RowIn wq.drew w.heap.size 1 rd.A m (ts.map .string)) := Lib.hid (HXR.out.below (below_drew HBq.out))
        have HGq : Hid (GlobAt wq.drew) := Lib.hid (HG.out.keep (below_drew HBq.out) (Nat.le_refl _))
        have HA1 : Hid (Calls Tryd.prog 21 #[.pointer (some ⟨c1, 0, none⟩), evA rd.e, .slice rd.A m rd.c] wq.drew fun e w' => e = .returned (.bool (takesC r1 rd.e)) ∧ ∃ U' : Nat → Prop, CrAt w' c1 hf U' (aftC r1 ⟨rd.e, ts⟩) ∧ (∀ q, U1 q → U' q) ∧ (∀ q, U' q → U1 q ∨ wq.drew.heap.size ≤ q) ∧ Kept U1 wq.drew w') := Lib.hid (apply_any wq.drew c1 hf U1 r1 rd.e rd.A ts m rd.c HQ1.out HSH.out HML.out (HTR.out.more HBq.out.size) HXT.out HGq.out (by omega) (by omega) (fun h0 ad ha hu => by
          have h5 := (HUL.out _ (Or.inl hu)).1
          obtain ⟨b0, o0, e0, h1, _⟩ := HXR.out.at h0
          rw [ha] at e0
          have : ad.block = b0 := by injection e0 with e0; rw [e0]
          omega))
        have HTE : Hid (takesC r2 rd.e = takesC r1 rd.e) := Lib.hid (htt.takes rd.e).symm
        have HTA : Hid (Tw (aftC r1 ⟨rd.e, ts⟩) (aftC r2 ⟨rd.e, turnP ts m⟩)) := Lib.hid (htt.aft rd.e (fun t ht => by rw [← HML.out]; exact turnP_mem ts t ht))
        have HLE : Hid ((aftC r1 ⟨rd.e, ts⟩).length ≤ k + 1 ∧ (aftC r2 ⟨rd.e, turnP ts m⟩).length ≤ k + 1) := Lib.hid ⟨by have := aft_len r1 ⟨rd.e, ts⟩; omega, by have := aft_len r2 ⟨rd.e, turnP ts m⟩; omega⟩
        have HBO : Hid (∀ W, Blk W rb 51 (rdAr rd) → BoxR W rb rd m) := Lib.hid (fun W hW => boxr_of hW HRN.out)
        have HSB : Hid (Blk wq.drew rb 51 (rdAr rd)) := Lib.hid HBXq.out.drew
        have HRQ : Hid (RowIn wq.drew wq.heap.size 1 A7 (2 + 2 * m) ((turnP ts m).map .string)) := Lib.hid (RowIn.of_own hrow.out)
        have HRK : Hid (∀ ad, A7 = some ad → w4.heap.size ≤ ad.block) := Lib.hid (fun ad ha => by
          obtain ⟨g, cap, hv, hg, _⟩ := hrow.out.form (by omega)
          injection hv with hv _ _
          rw [ha] at hv
          injection hv with hv
          rw [hv]
          exact hg)
        unfold evA at HA1
        clear hc1 hc2 hdj hub htt hrow
        go_wp2_with fail
        refine wp_plan (fun W => BoxR W rb rd m) [(0, false), (1, false), (2, false), (3, false), (4, false), (6, false), (7, false), (8, false), (9, false), (5, true), (10, true), (11, false)] (by kernel_rfl) (by kernel_rfl) (HBO.out _ HSB.out) ?_
        simp only [planL, List.getElem?_cons_zero, List.getElem?_cons_succ]
        repeat (first | (refine plan_on _ (by rfl) (fun W hW => by (obtain ⟨x0, x1, x2, x3, x4, x5, x6, x7, x8⟩ := hW; go_simp; try with_reducible rfl)) ?_; simp only [Act.put, List.setIfInBounds_toArray, List.set_cons_zero, List.set_cons_succ]) | (refine plan_off (by rfl) ?_; simp only [Act.put, List.setIfInBounds_toArray, List.set_cons_zero, List.set_cons_succ]))
        refine plan_turn ?_
        go_wp2_with fail
        refine HA1.out.mono ?_
        rintro e w9 ⟨rfl, U3, hc3, hs3, hn3, hk3⟩
        have HS9 : Hid (Blk w9 rb 51 (rdAr rd)) := Lib.hid (HSB.out.kept hk3 (fun h => by have := (HUL.out _ (Or.inl h)).2; omega))
        have HB9 : Hid (Below w.heap.size w w9) := Lib.hid ((below_drew HBq.out).trans (hk3.toBelow (B := w.heap.size) (fun i hi => (HUL.out i (Or.inl hi)).1) HBq.out.size))
        have HD2 : Hid (CrAt w9 c2 hf U2 r2) := Lib.hid (HQ2.out.kept hk3 (fun q hq h => HDJ.out q h hq))
        have HR9 : Hid (RowIn w9 wq.heap.size 1 A7 (2 + 2 * m) ((turnP ts m).map .string)) := Lib.hid (row_off HRQ.out hk3 (Nat.le_refl _) (fun _ ad ha hu => by have := HRK.out ad ha; have := (HUL.out _ (Or.inl hu)).2; have := HR4z.out; omega))
        have HZ9 : Hid (wq.heap.size ≤ w9.heap.size) := Lib.hid hk3.size
        have HA2 : Hid (Calls Tryd.prog 21 #[.pointer (some ⟨c2, 0, none⟩), evA rd.e, .slice A7 (2 + 2 * m) c7] w9 fun e w' => e = .returned (.bool (takesC r1 rd.e)) ∧ ∃ U' : Nat → Prop, CrAt w' c2 hf U' (aftC r2 ⟨rd.e, turnP ts m⟩) ∧ (∀ q, U2 q → U' q) ∧ (∀ q, U' q → U2 q ∨ w9.heap.size ≤ q) ∧ Kept U2 w9 w') := Lib.hid (by
          rw [← HTE.out]
          exact apply_any w9 c2 hf U2 r2 rd.e A7 (turnP ts m) (2 + 2 * m) c7 HD2.out HSH.out (turnP_len _ _) (HR9.out.more HZ9.out) (turnP_all HXT.out (by unfold maxLen; omega) m (by rw [HML.out]; exact Nat.le_refl _)) (HG.out.keep HB9.out (Nat.le_refl _)) (by omega) (by omega) (fun _ ad ha hu => by have := HRK.out ad ha; have := (HUL.out _ (Or.inr hu)).2; have := HR4z.out; omega))
        have HC3 := Lib.hid hc3
        have HN3 := Lib.hid hn3
        unfold evA at HA2
        clear hc3 hs3 hn3 hk3 HA1
        go_wp2_with fail
        refine ⟨HBO.out _ HS9.out, ?_⟩
        repeat (first | (refine plan_on _ (by rfl) (fun W hW => by (obtain ⟨x0, x1, x2, x3, x4, x5, x6, x7, x8⟩ := hW; go_simp; try with_reducible rfl)) ?_; simp only [Act.put, List.setIfInBounds_toArray, List.set_cons_zero, List.set_cons_succ]) | (refine plan_off (by rfl) ?_; simp only [Act.put, List.setIfInBounds_toArray, List.set_cons_zero, List.set_cons_succ]))
        refine plan_turn ?_
        go_wp2_with fail
        refine HA2.out.mono ?_
        rintro e w10 ⟨rfl, U4, hc4, hs4, hn4, hk4⟩
        have HS10 : Hid (Blk w10 rb 51 (rdAr rd)) := Lib.hid (HS9.out.kept hk4 (fun h => by have := (HUL.out _ (Or.inr h)).2; omega))
        have HB10 : Hid (Below w.heap.size w w10) := Lib.hid (HB9.out.trans (hk4.toBelow (B := w.heap.size) (fun i hi => (HUL.out i (Or.inr hi)).1) HB9.out.size))
        have HTW : Hid (TwIn w w10 c1 c2 hf (k + 1)) := Lib.hid ⟨U3, U4, _, _, HC3.out.kept hk4 (fun q h3 h2 => by
            rcases HN3.out q h3 with h | h
            · exact HDJ.out q h h2
            · have := (HUL.out q (Or.inr h2)).2
              have := HR4z.out
              have h' : wq.heap.size ≤ q := h
              omega), hc4, fun q h3 h4 => by
            rcases hn4 q h4 with h | h
            · rcases HN3.out q h3 with h5 | h5
              · exact HDJ.out q h5 h
              · have := (HUL.out q (Or.inr h)).2
                have := HR4z.out
                have h' : wq.heap.size ≤ q := h5
                omega
            · have := HC3.out.lt q h3
              omega, fun q hq => by
            have hz1 := HBq.out.size
            have hz2 := HZ9.out
            rcases hq with hq | hq
            · rcases HN3.out q hq with h | h
              · exact (HUL.out q (Or.inl h)).1
              · exact Nat.le_trans hz1 h
            · rcases hn4 q hq with h | h
              · exact (HUL.out q (Or.inr h)).1
              · omega, HTA.out, HLE.out.1, HLE.out.2⟩
        obtain ⟨tk, htk⟩ : ∃ tk, takesC r1 rd.e = tk := ⟨_, rfl⟩
        rw [htk]
        clear hc4 hs4 hn4 hk4 HA2 htk
        go_wp2_with fail
        refine ⟨HBO.out _ HS10.out, ?_⟩
        cases tk
        all_goals
          repeat (first | (refine plan_on _ (by rfl) (fun W hW => by (obtain ⟨x0, x1, x2, x3, x4, x5, x6, x7, x8⟩ := hW; go_simp; try with_reducible rfl)) ?_; simp only [Act.put, List.setIfInBounds_toArray, List.set_cons_zero, List.set_cons_succ]) | (refine plan_off (by rfl) ?_; simp only [Act.put, List.setIfInBounds_toArray, List.set_cons_zero, List.set_cons_succ]))
          refine plan_done ?_
          go_wp2_with fail
          go_roundw
          case rel => exact ⟨k + 1, by omega, by go_num, HTW, HB10⟩
          case measure => simp [intOf]; omega
    · obtain rfl : n = k := by omega
      obtain ⟨U1, U2, r1, r2, hc1, hc2, _, _, htt, hl1, hl2⟩ := htw.out
      obtain ⟨hh1, hh2⟩ := HHB.out
      have HT1 := Lib.hid (taste_any wo c1 hf U1 r1 ps now hc1 hpm hh1 hh2 (by omega) (by omega) (by omega))
      have HC2 := Lib.hid hc2
      have HTT := Lib.hid htt
      clear hc1 hc2 htt htw
      go_wp2_with fail
      refine HT1.out.mono ?_
      rintro e w5 ⟨A5, c5, L1, rfl, ht1, hn1, hr1, hb5⟩
      have HB5 : Hid (Below w.heap.size w w5) := Lib.hid (hbw.out.trans (hb5.mono hbw.out.size))
      have HI1 := Lib.hid ht1
      have HR1 := Lib.hid hr1
      have HT2 := Lib.hid (taste_any w5 c2 hf U2 r2 ps now (HC2.out.below hb5) hpm hh1 hh2 (by omega) (by omega) (by omega))
      clear ht1 hr1 hb5 HT1
      go_wp2_with fail
      refine HT2.out.mono ?_
      rintro e w6 ⟨A6, c6, L2, rfl, ht2, hn2, hr2, hb6⟩
      have HB6 : Hid (Below w.heap.size w w6) := Lib.hid (HB5.out.trans (hb6.mono HB5.out.size))
      obtain rfl : L1 = L2 := HI1.out.one ht2 (fun t => (HTT.out.own ps).sums hf now t)
      have HSA := Lib.hid (same10_any w6 w5.heap.size w6.heap.size A5 A6 L1 L1.length c5 c6 rfl (HR1.out.below hb6) hr2 hn1)
      clear ht2 hr2 hb6 HT2 HI1 HR1
      go_wp2_with fail
      refine HSA.out.mono ?_
      rintro e w7 ⟨rfl, hb7⟩
      have HB7 : Hid (Below w.heap.size w w7) := Lib.hid (HB6.out.trans (hb7.mono HB6.out.size))
      have HAW := Lib.hid (awake_any w7 (HG.out.keep HB7.out (Nat.le_refl _)))
      clear hb7 HSA
      go_wp2_with fail
      refine HAW.out.mono ?_
      rintro e w8 ⟨rfl, hb8⟩
      have HB8 : Hid (Below w.heap.size w w8) := Lib.hid (HB7.out.trans (hb8.mono HB7.out.size))
      clear hb8 HAW
      go_wp2_with fail
      go_ret
      exact ⟨rfl, HB8.out⟩

end Go.Proofs.YtnkglbiakjnfjaaDoor
