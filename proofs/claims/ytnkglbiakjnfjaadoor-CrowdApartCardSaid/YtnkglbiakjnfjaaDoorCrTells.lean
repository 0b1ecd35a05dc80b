/- CrowdTells: plain, and the walk. -/
import Derived.Test.YtnkglbiakjnfjaaDoorCrFans
namespace Go.Proofs.YtnkglbiakjnfjaaDoor
open Go.Shelf Go.RowKit Go.Maps
set_option linter.unusedVariables false

/-! ### plain -/
def evsR (l : List Rw) : List Ev := l.map (·.e)
def evsD (l : List Rd) : List Ev := l.map (·.e)
theorem Tw.evs {a b : List Rw} (h : Tw a b) : evsR a = evsR b := by
  unfold evsR
  induction h with
  | nil => rfl
  | snoc h hr ih => rw [List.map_append, List.map_append, ih]; simp [hr.1]
theorem dds_evs {w : World} {l : List Rd} {xs : List Rw} (h : DdsIs w l xs) : evsD l = evsR xs := by
  unfold evsD evsR
  apply List.ext_getElem?
  intro j
  rw [List.getElem?_map, List.getElem?_map]
  rcases Nat.lt_or_ge j xs.length with hj | hj
  · obtain ⟨r, hr, hd⟩ := h.at (List.getElem?_eq_getElem hj)
    rw [hr, List.getElem?_eq_getElem hj]
    simp [hd.1]
  · rw [List.getElem?_eq_none hj, List.getElem?_eq_none (by rw [h.1]; exact hj)]
    rfl
def cntE (l : List Ev) (p i : ByteArray) (kd : Int) : Nat := l.countP fun e => decide (e.person = p ∧ e.item = i ∧ e.kind = kd)
theorem cntK_own (xl : List Rd) (p i : ByteArray) (kd : Int) : cntK (ownR xl p) i kd = cntE (evsD xl) p i kd := by
  unfold cntK ownR cntE evsD
  rw [List.countP_filter, List.countP_map]
  refine List.countP_congr fun r _ => ?_
  simp only [Bool.and_eq_true, decide_eq_true_eq, Function.comp_apply]
  constructor
  · rintro ⟨⟨h1, h2⟩, h3⟩; exact ⟨h3, h1, h2⟩
  · rintro ⟨h3, h1, h2⟩; exact ⟨⟨h1, h2⟩, h3⟩
theorem shown_cnt (rs : List Rw) (p i : ByteArray) : shownN rs p i = cntE (evsR rs) p i 0 := by
  unfold shownN cntE evsR isR
  rw [List.countP_map]
  refine List.countP_congr fun r _ => ?_
  simp only [Bool.and_eq_true, decide_eq_true_eq, Function.comp_apply]
  constructor
  · rintro ⟨⟨h1, h2⟩, h3⟩; exact ⟨h1, h2, h3⟩
  · rintro ⟨h1, h2, h3⟩; exact ⟨⟨h1, h2⟩, h3⟩
theorem cntE_pos (rs : List Rw) (p i : ByteArray) (kd : Int) : 0 < cntE (evsR rs) p i kd ↔ ∃ r ∈ rs, r.e.person = p ∧ r.e.item = i ∧ r.e.kind = kd := by
  unfold cntE evsR
  rw [List.countP_pos_iff]
  constructor
  · rintro ⟨e, he, h⟩
    obtain ⟨r, hr, rfl⟩ := List.mem_map.1 he
    exact ⟨r, hr, of_decide_eq_true h⟩
  · rintro ⟨r, hr, h⟩
    exact ⟨r.e, List.mem_map.2 ⟨r, hr, rfl⟩, decide_eq_true h⟩
theorem done_cnt (rs : List Rw) (p i : ByteArray) : doneB rs p i = decide (0 < (cntE (evsR rs) p i 2 : Int) + (cntE (evsR rs) p i 3 : Int)) := by
  rw [Bool.eq_iff_iff, decide_eq_true_eq]
  unfold doneB isR
  rw [List.any_eq_true]
  simp only [Bool.and_eq_true, decide_eq_true_eq]
  constructor
  · rintro ⟨r, hr, ⟨h1, h2⟩, h3 | h3⟩
    · have := (cntE_pos rs p i 2).2 ⟨r, hr, h1, h2, h3⟩; omega
    · have := (cntE_pos rs p i 3).2 ⟨r, hr, h1, h2, h3⟩; omega
  · intro h
    rcases Nat.eq_zero_or_pos (cntE (evsR rs) p i 2) with h0 | h0
    · obtain ⟨r, hr, h1, h2, h3⟩ := (cntE_pos rs p i 3).1 (by omega)
      exact ⟨r, hr, ⟨h1, h2⟩, Or.inr h3⟩
    · obtain ⟨r, hr, h1, h2, h3⟩ := (cntE_pos rs p i 2).1 h0
      exact ⟨r, hr, ⟨h1, h2⟩, Or.inl h3⟩
theorem cntE_le (l : List Ev) (p i : ByteArray) (kd : Int) : cntE l p i kd ≤ l.length := List.countP_le_length
def lsF (p i t : ByteArray) (a b : Int) (acc : Int) (e : Ev) : Int := if e.person = p ∧ e.item = i ∧ e.text = t ∧ (e.kind = a ∨ e.kind = b) then e.kind else acc
def lsE (l : List Ev) (p i t : ByteArray) (a b : Int) : Int := l.foldl (lsF p i t a b) (-1)
theorem lsE_snoc (l : List Ev) (e : Ev) (p i t : ByteArray) (a b : Int) : lsE (l ++ [e]) p i t a b = lsF p i t a b (lsE l p i t a b) e := by unfold lsE; rw [List.foldl_append]; rfl
theorem lstK_own (xl : List Rd) (p i t : ByteArray) (a b : Int) : lstK (ownR xl p) i t a b = lsE (evsD xl) p i t a b := by
  refine snocInd' (p := fun xl => lstK (ownR xl p) i t a b = lsE (evsD xl) p i t a b) xl rfl (fun l r ih => ?_)
  rw [ownR_snoc, show evsD (l ++ [r]) = evsD l ++ [r.e] by unfold evsD; simp, lsE_snoc, ← ih]
  unfold lsF
  by_cases h : r.e.person = p
  · rw [if_pos h, lstK_snoc]
    unfold lstF
    simp [h]
  · rw [if_neg h]; simp [h]
theorem emp_of {s : ByteArray} (h : empB s = true) : s = ⟨#[]⟩ := by
  unfold empB at h
  rw [emp_iff] at h
  exact of_decide_eq_true h
theorem hid_text {e : Ev} (h : crB e = true) (hk : e.kind = 5 ∨ e.kind = 6) : e.text = ⟨#[]⟩ := by
  unfold crB mayB at h
  simp only [Bool.and_eq_true] at h
  have h2 := h.1.2.2.2
  unfold kindB at h2
  rw [if_pos (by omega)] at h2
  simp only [Bool.and_eq_true] at h2
  exact emp_of h2.2.2.2
theorem hid_word (rs : List Rw) (h : ∀ r ∈ rs, crB r.e = true) (p i : ByteArray) : (hidO rs p i = none ∧ lsE (evsR rs) p i ⟨#[]⟩ 5 6 = -1) ∨ ∃ b : Bool, hidO rs p i = some b ∧ lsE (evsR rs) p i ⟨#[]⟩ 5 6 = if b then 5 else 6 := by
  revert h
  refine snocInd' (p := fun rs => (∀ r ∈ rs, crB r.e = true) → (hidO rs p i = none ∧ lsE (evsR rs) p i ⟨#[]⟩ 5 6 = -1) ∨ ∃ b : Bool, hidO rs p i = some b ∧ lsE (evsR rs) p i ⟨#[]⟩ 5 6 = if b then 5 else 6) rs (fun _ => Or.inl ⟨rfl, rfl⟩) (fun l r ih hc => ?_)
  have ih := ih (fun x hx => hc x (List.mem_append_left _ hx))
  have hr := hc r (by simp)
  rw [show hidO (l ++ [r]) p i = _ from wordO_snoc _ _ _ _ _, show evsR (l ++ [r]) = evsR l ++ [r.e] by unfold evsR; simp, lsE_snoc]
  unfold lsF isR
  by_cases h1 : r.e.person = p ∧ r.e.item = i
  · by_cases h2 : r.e.kind = 5 ∨ r.e.kind = 6
    · have h3 := hid_text hr h2
      rw [if_pos (by simp [h1, h2]), if_pos ⟨h1.1, h1.2, h3, h2⟩]
      refine Or.inr ⟨_, rfl, ?_⟩
      rcases h2 with h2 | h2 <;> simp [h2]
    · rw [if_neg (by simp [h2]), if_neg (fun h => h2 h.2.2.2)]
      exact ih
  · rw [if_neg (by simp only [Bool.and_eq_true, decide_eq_true_eq]; exact fun h => h1 h.1), if_neg (fun h => h1 ⟨h.1, h.2.1⟩)]
    exact ih
theorem hid_last {rs : List Rw} (h : ∀ r ∈ rs, crB r.e = true) (p i : ByteArray) : (lsE (evsR rs) p i ⟨#[]⟩ 5 6 == 5) = (hidO rs p i).getD false := by
  rcases hid_word rs h p i with ⟨h1, h2⟩ | ⟨b, h1, h2⟩
  · rw [h1, h2]; rfl
  · rw [h1, h2]; cases b <;> rfl
theorem nodup_le : ∀ (a b : List ByteArray), a.Nodup → (∀ x ∈ a, x ∈ b) → a.length ≤ b.length
  | [], _, _, _ => Nat.zero_le _
  | x :: a, b, hn, hs => by
    rw [List.nodup_cons] at hn
    have hx := hs x (by simp)
    have h1 := nodup_le a (b.filter fun y => decide (y ≠ x)) hn.2 (fun y hy => List.mem_filter.2 ⟨hs y (by simp [hy]), decide_eq_true (fun e => hn.1 (by rw [← e]; exact hy))⟩)
    have h2 : (b.filter fun y => decide (y ≠ x)).length < b.length := List.length_filter_lt_length_iff_exists.2 ⟨x, hx, by simp⟩
    rw [List.length_cons]
    omega
theorem nodup_eq {a b : List ByteArray} (ha : a.Nodup) (hb : b.Nodup) (h : ∀ x, x ∈ a ↔ x ∈ b) : a.length = b.length := Nat.le_antisymm (nodup_le a b ha (fun x => (h x).1)) (nodup_le b a hb (fun x => (h x).2))
theorem fan_len {rs : List Rw} {xl : List Rd} {i : ByteArray} {out : List ByteArray} (he : evsD xl = evsR rs) (h : FanO xl i out) : out.length = fansN rs i := by
  refine nodup_eq (ltN_nodup h.1) (fanL_is rs i).1 (fun y => ?_)
  rw [h.2 y, (fanL_is rs i).2 y]
  unfold likB isR
  rw [List.any_eq_true]
  simp only [Bool.and_eq_true, decide_eq_true_eq]
  have hm : ∀ e : Ev, (∃ r ∈ xl, r.e = e) ↔ (∃ r ∈ rs, r.e = e) := fun e => by
    have : e ∈ evsD xl ↔ e ∈ evsR rs := by rw [he]
    unfold evsD evsR at this
    rw [List.mem_map, List.mem_map] at this
    exact this
  constructor
  · rintro ⟨r, hr, h1, h2, h3⟩
    obtain ⟨r', hr', he'⟩ := (hm r.e).1 ⟨r, hr, rfl⟩
    exact ⟨r', hr', ⟨by rw [he']; exact h3, by rw [he']; exact h1⟩, by rw [he']; exact h2⟩
  · rintro ⟨r, hr, ⟨h3, h1⟩, h2⟩
    obtain ⟨r', hr', he'⟩ := (hm r.e).2 ⟨r, hr, rfl⟩
    exact ⟨r', hr', by rw [he']; exact h1, by rw [he']; exact h2, by rw [he']; exact h3⟩

theorem rw_below {w w' : World} {A : Option Addr} {n c : Nat} {l : List Ri} (h : RwArg w A n c l) (hb : Below w.heap.size w w') : RwArg w' A n c l :=
  ⟨h.1, (h.2.1.below hb).more hb.size, h.2.2.1, h.2.2.2.1, fun x hx => by
    obtain ⟨h1, h2, h3, h4, h5, h6⟩ := h.2.2.2.2 x hx
    exact ⟨h1, h2, (h3.below hb).more hb.size, h4, h5, h6⟩⟩
/-- What fill made, opened. -/
theorem fill_open {w w' : World} {cb : Nat} {hf : Int} {rows : List Rw} {A : Option Addr} {n c : Nat} (h : FillIn w w' cb hf rows A n c) : ∃ (U V : Nat → Prop) (xl : List Rd) (xs : List Rw), CrAt w' cb hf U (crowdOf rows) ∧ DocIn w' A n c xl V xs ∧ (∀ q, U q → ¬ V q) ∧ (∀ q, U q ∨ V q → w.heap.size ≤ q) ∧ Tw (crowdOf rows) xs ∧ RiseT xs ∧ evsD xl = evsR (crowdOf rows) ∧ xl.length = n := by
  obtain ⟨U, V, xs, h1, ⟨xl, h2⟩, h3, h4, h5, h6⟩ := h
  exact ⟨U, V, xl, xs, h1, h2, h3, h4, h5, h6, by rw [dds_evs h2.rel, h5.evs], by rw [h2.rel.1, h2.len]⟩

set_option maxHeartbeats 8000000 in
set_option maxRecDepth 100000 in
theorem crowdTells_walk (half : Int) (A : Option Addr) (n c : Nat) (l : List Ri) (ps it : ByteArray) (w : World) (ha : RwArg w A n c l) (hps : ps.size ≤ 140737488355328) (hit : it.size ≤ 140737488355328) (hg : GlobAt w) :
    Calls Tryd.prog 7 #[.int .i64 half, .slice A n c, .string ps, .string it] w fun e w' => e = .returned (.bool true) ∧ Below w.heap.size w w' := by
  have HLG := Lib.hid (long_any w A l n c ha)
  have HRW := Lib.hid ha
  have HG := Lib.hid hg
  have hpm : ps.size ≤ maxLen := by unfold maxLen; omega
  have him : it.size ≤ maxLen := by unfold maxLen; omega
  clear ha hg
  go_enter Tryd.func7, Tryd.ntmps7
  go_wp2_with fail
  refine HLG.out.mono ?_
  rintro e w1 ⟨bl, rfl, hbl, hb1⟩
  have HB1 := Lib.hid hb1
  have HW1 := Lib.hid (awake_any w1 (HG.out.keep hb1 (Nat.le_refl _)))
  clear HLG hb1
  cases bl
  rotate_left
  · go_wp2_with fail
    refine HW1.out.mono ?_
    rintro e w2 ⟨rfl, hb2⟩
    have HB2 : Hid (Below w.heap.size w w2) := Lib.hid (HB1.out.trans (hb2.mono HB1.out.size))
    go_wp2_with fail
    go_ret
    exact ⟨rfl, HB2.out⟩
  have hsm := hbl rfl
  have h40 := hsm.1
  clear hbl
  by_cases q1 : (60 : Int) < (ps.size : Int)
  · go_wp2_with fail
    refine HW1.out.mono ?_
    rintro e w2 ⟨rfl, hb2⟩
    have HB2 : Hid (Below w.heap.size w w2) := Lib.hid (HB1.out.trans (hb2.mono HB1.out.size))
    go_wp2_with fail
    go_ret
    exact ⟨rfl, HB2.out⟩
  have d1 : decide ((60 : Int) < (ps.size : Int)) = false := decide_eq_false q1
  by_cases q2 : (60 : Int) < (it.size : Int)
  · go_wp2_with fail
    refine HW1.out.mono ?_
    rintro e w2 ⟨rfl, hb2⟩
    have HB2 : Hid (Below w.heap.size w w2) := Lib.hid (HB1.out.trans (hb2.mono HB1.out.size))
    go_wp2_with fail
    go_ret
    exact ⟨rfl, HB2.out⟩
  have d2 : decide ((60 : Int) < (it.size : Int)) = false := decide_eq_false q2
  have HFI := Lib.hid (fill_any half A n c l w1 (rw_below HRW.out HB1.out) hsm (HG.out.keep HB1.out (Nat.le_refl _)))
  clear HW1 hsm
  go_wp2_with fail
  refine HFI.out.mono ?_
  rintro e w3 ⟨cb, A', n', c', rfl, hfi, hb3⟩
  have HB3 : Hid (Below w.heap.size w w3) := Lib.hid (HB1.out.trans (hb3.mono HB1.out.size))
  obtain ⟨U, V, xl, xs, hcr, hdo, hdj, huv, htw, hri, hev, hxl⟩ := fill_open hfi
  obtain ⟨hf, hhf⟩ : ∃ hf, halfP half = hf := ⟨_, rfl⟩
  obtain ⟨rs, hrs⟩ : ∃ rs, crowdOf (l.map rwOf) = rs := ⟨_, rfl⟩
  have hn40 : n' ≤ 40 := by
    have h1 := htw.len
    rw [hdo.len] at h1
    have h2 := crowdOf_len (l.map rwOf)
    rw [List.length_map, HRW.out.1] at h2
    omega
  rw [hhf, hrs] at hcr
  rw [hrs] at hev
  have HW : Hid (∀ W, Below w3.heap.size w3 W → CrAt W cb hf U rs ∧ RowIn W w3.heap.size 9 A' n' (xl.flatMap rdC) ∧ w3.heap.size ≤ W.heap.size) := Lib.hid (fun W hW => ⟨hcr.below hW, (RowIn.of_own hdo.own).below hW, hW.size⟩)
  have HXL := Lib.hid hxl
  obtain ⟨c2, hc2⟩ : ∃ c2, cntK (ownR xl ps) it 2 = c2 := ⟨_, rfl⟩
  obtain ⟨c3, hc3⟩ : ∃ c3, cntK (ownR xl ps) it 3 = c3 := ⟨_, rfl⟩
  obtain ⟨c0, hc0⟩ : ∃ c0, cntK (ownR xl ps) it 0 = c0 := ⟨_, rfl⟩
  obtain ⟨lq, hlq⟩ : ∃ lq, lstK (ownR xl ps) it ⟨#[]⟩ 5 6 = lq := ⟨_, rfl⟩
  obtain ⟨dq, hdq⟩ : ∃ dq, doneB rs ps it = dq := ⟨_, rfl⟩
  obtain ⟨hq, hhq⟩ : ∃ hq, (hidO rs ps it).getD false = hq := ⟨_, rfl⟩
  obtain ⟨fq, hfq⟩ : ∃ fq, fansN rs it = fq := ⟨_, rfl⟩
  have hb2 : c2 ≤ 40 := by rw [← hc2]; have := cntK_le (ownR xl ps) it 2; have := ownR_len xl ps; omega
  have hb3' : c3 ≤ 40 := by rw [← hc3]; have := cntK_le (ownR xl ps) it 3; have := ownR_len xl ps; omega
  have g0 : shownN rs ps it = c0 := by rw [shown_cnt, ← hev, ← cntK_own, hc0]
  have gd : decide (0 < (c2 : Int) + (c3 : Int)) = dq := by rw [← hdq, done_cnt, ← hev, ← cntK_own, ← cntK_own, hc2, hc3]
  have gl : (lq == 5) = hq := by rw [← hlq, lstK_own, hev, ← hhq]; exact hid_last hcr.may ps it
  have HFQ : Hid (∀ out, FanO xl it out → out.length = fq) := Lib.hid (fun out h => by rw [← hfq]; exact fan_len hev h)
  have HC2 : Hid (∀ W, Below w3.heap.size w3 W → Calls Tryd.prog 22 #[.slice A' n' c', .string ps, .string it, .int .i64 2] W fun e w' => e = .returned (.int .i64 c2) ∧ Below W.heap.size W w') := Lib.hid (fun W hW => by
    obtain ⟨_, h2, h3⟩ := HW.out W hW
    have := count_any W w3.heap.size A' n' c' xl ps it 2 HXL.out h2 h3 (by omega)
    rw [hc2] at this
    exact this)
  have HC3 : Hid (∀ W, Below w3.heap.size w3 W → Calls Tryd.prog 22 #[.slice A' n' c', .string ps, .string it, .int .i64 3] W fun e w' => e = .returned (.int .i64 c3) ∧ Below W.heap.size W w') := Lib.hid (fun W hW => by
    obtain ⟨_, h2, h3⟩ := HW.out W hW
    have := count_any W w3.heap.size A' n' c' xl ps it 3 HXL.out h2 h3 (by omega)
    rw [hc3] at this
    exact this)
  have HC0 : Hid (∀ W, Below w3.heap.size w3 W → Calls Tryd.prog 22 #[.slice A' n' c', .string ps, .string it, .int .i64 0] W fun e w' => e = .returned (.int .i64 c0) ∧ Below W.heap.size W w') := Lib.hid (fun W hW => by
    obtain ⟨_, h2, h3⟩ := HW.out W hW
    have := count_any W w3.heap.size A' n' c' xl ps it 0 HXL.out h2 h3 (by omega)
    rw [hc0] at this
    exact this)
  have HLA : Hid (∀ W, Below w3.heap.size w3 W → Calls Tryd.prog 23 #[.slice A' n' c', .string ps, .string it, .string ⟨#[]⟩, .int .i64 5, .int .i64 6] W fun e w' => e = .returned (.int .i64 lq) ∧ Below W.heap.size W w') := Lib.hid (fun W hW => by
    obtain ⟨_, h2, h3⟩ := HW.out W hW
    have := last_any W w3.heap.size A' n' c' xl ps it ⟨#[]⟩ 5 6 HXL.out h2 h3 (by omega)
    rw [hlq] at this
    exact this)
  have HRF : Hid (∀ W, Below w3.heap.size w3 W → Calls Tryd.prog 28 #[.slice A' n' c', .string it] W fun e w' => e = .returned (.int .i64 fq) ∧ Below W.heap.size W w') := Lib.hid (fun W hW => by
    obtain ⟨_, h2, h3⟩ := HW.out W hW
    refine (rfans_any W w3.heap.size A' n' c' xl it HXL.out h2 h3 (by omega)).mono ?_
    rintro e w' ⟨m, out, rfl, hm, ho, hb⟩
    rw [hm, HFQ.out out ho]
    exact ⟨rfl, hb⟩)
  have HDN : Hid (∀ W, Below w3.heap.size w3 W → Calls Tryd.prog 24 #[.pointer (some ⟨cb, 0, none⟩), .string ps, .string it] W fun e w' => e = .returned (.bool dq) ∧ Below W.heap.size W w') := Lib.hid (fun W hW => by
    have := doneG_any cb hf U rs ps it W (HW.out W hW).1 hpm him
    rw [hdq] at this
    exact this)
  have HSN : Hid (∀ W, Below w3.heap.size w3 W → Calls Tryd.prog 25 #[.pointer (some ⟨cb, 0, none⟩), .string ps, .string it] W fun e w' => e = .returned (.int .i64 c0) ∧ Below W.heap.size W w') := Lib.hid (fun W hW => by
    have := shownG_any cb hf U rs ps it W (HW.out W hW).1 hpm him
    rw [g0] at this
    exact this)
  have HHN : Hid (∀ W, Below w3.heap.size w3 W → Calls Tryd.prog 26 #[.pointer (some ⟨cb, 0, none⟩), .string ps, .string it] W fun e w' => e = .returned (.bool hq) ∧ Below W.heap.size W w') := Lib.hid (fun W hW => by
    have := hiddenG_any cb hf U rs ps it W (HW.out W hW).1 hpm him
    rw [hhq] at this
    exact this)
  have HFN : Hid (∀ W, Below w3.heap.size w3 W → Calls Tryd.prog 27 #[.pointer (some ⟨cb, 0, none⟩), .string it] W fun e w' => e = .returned (.int .i64 fq) ∧ Below W.heap.size W w') := Lib.hid (fun W hW => by
    have := fansG_any cb hf U rs it W (HW.out W hW).1 him
    rw [hfq] at this
    exact this)
  have HAW : Hid (∀ W, Below w3.heap.size w3 W → Calls Tryd.prog 12 #[] W fun e w' => e = .returned (.bool true) ∧ Below W.heap.size W w') := Lib.hid (fun W hW => awake_any W (HG.out.keep (HB3.out.trans (hW.mono HB3.out.size)) (Nat.le_refl _)))
  have ed : (dq == dq) = true := by simp
  have eh : (hq == hq) = true := by simp
  clear hb3 hfi hcr hdo hdj huv htw hri hev hxl hhf hrs hc2 hc3 hc0 hlq hdq hhq hfq g0 HFI HW HFQ
  have hB0 : Hid (Below w3.heap.size w3 w3) := Lib.hid (Below.refl _ _)
  go_wp2_with fail
  refine (HC2.out w3 hB0.out).mono ?_
  rintro e v1 ⟨rfl, hv1⟩
  have hB1 : Hid (Below w3.heap.size w3 v1) := Lib.hid (hB0.out.trans (hv1.mono hB0.out.size))
  clear hv1 HC2
  go_wp2_with fail
  refine (HC3.out v1 hB1.out).mono ?_
  rintro e v2 ⟨rfl, hv2⟩
  have hB2 : Hid (Below w3.heap.size w3 v2) := Lib.hid (hB1.out.trans (hv2.mono hB1.out.size))
  clear hv2 HC3
  go_wp2_with fail
  refine (HLA.out v2 hB2.out).mono ?_
  rintro e v3 ⟨rfl, hv3⟩
  have hB3 : Hid (Below w3.heap.size w3 v3) := Lib.hid (hB2.out.trans (hv3.mono hB2.out.size))
  clear hv3 HLA
  go_wp2_with fail
  refine (HDN.out v3 hB3.out).mono ?_
  rintro e v4 ⟨rfl, hv4⟩
  have hB4 : Hid (Below w3.heap.size w3 v4) := Lib.hid (hB3.out.trans (hv4.mono hB3.out.size))
  clear hv4 HDN
  go_wp2_with fail
  refine (HSN.out v4 hB4.out).mono ?_
  rintro e v5 ⟨rfl, hv5⟩
  have hB5 : Hid (Below w3.heap.size w3 v5) := Lib.hid (hB4.out.trans (hv5.mono hB4.out.size))
  clear hv5 HSN
  go_wp2_with fail
  refine (HC0.out v5 hB5.out).mono ?_
  rintro e v6 ⟨rfl, hv6⟩
  have hB6 : Hid (Below w3.heap.size w3 v6) := Lib.hid (hB5.out.trans (hv6.mono hB5.out.size))
  clear hv6 HC0
  go_wp2_with fail
  refine (HHN.out v6 hB6.out).mono ?_
  rintro e v7 ⟨rfl, hv7⟩
  have hB7 : Hid (Below w3.heap.size w3 v7) := Lib.hid (hB6.out.trans (hv7.mono hB6.out.size))
  clear hv7 HHN
  go_wp2_with fail
  refine (HFN.out v7 hB7.out).mono ?_
  rintro e v8 ⟨rfl, hv8⟩
  have hB8 : Hid (Below w3.heap.size w3 v8) := Lib.hid (hB7.out.trans (hv8.mono hB7.out.size))
  clear hv8 HFN
  go_wp2_with fail
  refine (HRF.out v8 hB8.out).mono ?_
  rintro e v9 ⟨rfl, hv9⟩
  have hB9 : Hid (Below w3.heap.size w3 v9) := Lib.hid (hB8.out.trans (hv9.mono hB8.out.size))
  clear hv9 HRF
  go_wp2_with fail
  refine (HAW.out v9 hB9.out).mono ?_
  rintro e v10 ⟨rfl, hv10⟩
  have hB10 : Hid (Below w3.heap.size w3 v10) := Lib.hid (hB9.out.trans (hv10.mono hB9.out.size))
  clear hv10 HAW
  go_wp2_with fail
  go_ret
  exact ⟨rfl, HB3.out.trans (hB10.out.mono HB3.out.size)⟩

end Go.Proofs.YtnkglbiakjnfjaaDoor
