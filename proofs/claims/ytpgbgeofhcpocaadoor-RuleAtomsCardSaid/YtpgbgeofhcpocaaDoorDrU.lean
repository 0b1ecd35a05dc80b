/- The document of rules: a rule's own text. -/
import Derived.Test.YtpgbgeofhcpocaaDoorDrQ
namespace Go.Proofs.YtpgbgeofhcpocaaDoor
open Go.RowKit Go.Maps Go.Shelf
set_option linter.unusedVariables false

theorem ownB_eq (n : Nd) (wi : Nat) : ownB n wi = ⟨(ownN n wi).toArray⟩ := rfl
theorem ownM_snoc (k : Nat) (n : Nd) : ∀ l : List Nd, ownM (l ++ [n]) k = ownM l k ++ (sepW k ++ ownN n (k + 1))
  | [] => by simp [ownM]
  | m :: l => by rw [List.cons_append, ownM, ownM, ownM_snoc k n l]; simp
theorem ownL_snoc (k : Nat) (n : Nd) (l : List Nd) : ownL (l ++ [n]) k = ownL l k ++ ((if l = [] then [] else sepW k) ++ ownN n (k + 1)) := by
  cases l with
  | nil => simp [ownL, ownM]
  | cons m l =>
    rw [List.cons_append, ownL, ownL, ownM_snoc]
    simp
def ownT (k : Nat) (l : List Nd) : ByteArray := ⟨(ownL l k).toArray⟩
theorem ownT_first {k : Nat} {n : Nd} : ownT k [n] = ownB n (k + 1) := by
  unfold ownT ownB
  rw [show [n] = [] ++ [n] from rfl, ownL_snoc]
  simp [ownL]
theorem ownT_next {k : Nat} {n : Nd} {l : List Nd} (h : l ≠ []) : ownT k (l ++ [n]) = ownT k l ++ sepB k ++ ownB n (k + 1) := by
  refine ba_ext ?_
  rw [ba_app, ba_app]
  unfold ownT sepB ownB
  rw [ownL_snoc, if_neg h]
  simp
theorem ownL_take (k : Nat) (l : List Nd) (i : Nat) : (ownL (l.take i) k).length ≤ (ownL l k).length := by
  have h : ∀ (l r : List Nd), (ownL l k).length ≤ (ownL (l ++ r) k).length := fun l r => by
    have hM : ∀ (l r : List Nd), (ownM l k).length ≤ (ownM (l ++ r) k).length := by
      intro l
      induction l with
      | nil => intro r; simp [ownM]
      | cons m l ih => intro r; rw [List.cons_append, ownM, ownM]; have := ih r; simp only [List.length_append]; omega
    cases l with
    | nil => simp [ownL]
    | cons m l => rw [List.cons_append, ownL, ownL]; have := hM l r; simp only [List.length_append]; omega
  have := h (l.take i) (l.drop i)
  rwa [List.take_append_drop] at this
theorem ownB_sz (n : Nd) (wi : Nat) : (ownB n wi).size = (ownN n wi).length := by show (ownN n wi).toArray.size = _; simp
theorem ownT_sz (k : Nat) (l : List Nd) : (ownT k l).size = (ownL l k).length := by show (ownL l k).toArray.size = _; simp
theorem ownL_mem {k : Nat} : ∀ {l : List Nd} {n : Nd}, n ∈ l → (ownN n (k + 1)).length ≤ (ownL l k).length := by
  intro l n h
  have hM : ∀ (l : List Nd), n ∈ l → (ownN n (k + 1)).length ≤ (ownM l k).length := by
    intro l
    induction l with
    | nil => intro h; cases h
    | cons m l ih =>
      intro h
      rw [ownM]
      simp only [List.length_append]
      rcases List.mem_cons.1 h with rfl | h
      · omega
      · have := ih h; omega
  cases l with
  | nil => cases h
  | cons m l =>
    rw [ownL]
    simp only [List.length_append]
    rcases List.mem_cons.1 h with rfl | h
    · omega
    · have := hM l h; omega
/-- A node's own text, by the document. -/
def TextD (n : Nd) : Prop := ∀ (wi B : Nat) (v : DV) (w : World), wi ≤ 3 → DNd w B n v → (ownN n wi).length ≤ 1000000 → Calls Tryd.prog 22 #[.agg #[.int .i64 v.k, .slice v.A v.m v.c, .string v.s], .int .i64 wi] w fun e w' => e = .returned (.string (ownB n wi)) ∧ Below w.heap.size w w'

set_option maxHeartbeats 4000000 in
set_option maxRecDepth 100000 in
theorem text_atomD (a : Leaf) (x : ByteArray) (hx : leafT a = x) (wi : Nat) (w : World) : Calls Tryd.prog 22 #[.agg #[.int .i64 4, .slice none 0 0, .string x], .int .i64 wi] w fun e w' => e = .returned (.string (ownB (.atom a) wi)) ∧ Below w.heap.size w w' := by
  have HX : Hid (x = ownB (.atom a) wi) := Lib.hid (by rw [← hx]; unfold ownB; rw [ownN, (show (⟨(leafT a).data.toList.toArray⟩ : ByteArray) = leafT a from ba_ext (by simp))])
  obtain ⟨w1, hw1⟩ : ∃ w1, w.alloc (.cells #[.int .i64 4, .slice none 0 0, .string x] NOA) = w1 := ⟨_, rfl⟩
  have B1 : Blk w1 w.heap.size NOA #[.int .i64 4, .slice none 0 0, .string x] := by rw [← hw1]; exact Blk.new _ _ _
  have HK1 : Hid (Below w.heap.size w w1) := Lib.hid (by rw [← hw1]; exact (Below.refl _ _).alloc (Nat.le_refl _) _)
  have HB1 := Lib.hid B1
  obtain ⟨c0, c1, c2, _, _, _⟩ := B1.at3
  clear B1
  clear hx
  go_enter Tryd.func22, Tryd.ntmps22
  go_wp2_with fail
  go_ret
  rw [HX.out]
  exact ⟨rfl, HK1.out⟩
set_option maxHeartbeats 4000000 in
set_option maxRecDepth 100000 in
theorem text_noD (n : Nd) (hT : TextD n) (wi B : Nat) (A : Option Addr) (c : Nat) (v : DV) (w : World) (hr : RowD w B A 1 c [v]) (hd : DNd w B n v) (hsz : (ownN (.no n) wi).length ≤ 1000000) : Calls Tryd.prog 22 #[.agg #[.int .i64 3, .slice A 1 c, .string ⟨#[]⟩], .int .i64 wi] w fun e w' => e = .returned (.string (ownB (.no n) wi)) ∧ Below w.heap.size w w' := by
  have hl : (ownN n 3).length + 4 ≤ 1000000 := by
    rw [ownN] at hsz
    simp [notW] at hsz
    omega
  have HX : Hid ((⟨#[110, 111, 116, 32]⟩ : ByteArray) ++ ownB n 3 = ownB (.no n) wi) := Lib.hid (by
    refine ba_ext ?_
    rw [ba_app]
    unfold ownB
    rw [ownN]
    simp [notW])
  have hbz : (ownB n 3).size = (ownN n 3).length := ownB_sz n 3
  obtain ⟨w1, hw1⟩ : ∃ w1, w.alloc (.cells #[.int .i64 3, .slice A 1 c, .string ⟨#[]⟩] NOA) = w1 := ⟨_, rfl⟩
  have B1 : Blk w1 w.heap.size NOA #[.int .i64 3, .slice A 1 c, .string ⟨#[]⟩] := by rw [← hw1]; exact Blk.new _ _ _
  have HK1 : Hid (Below w.heap.size w w1) := Lib.hid (by rw [← hw1]; exact (Below.refl _ _).alloc (Nat.le_refl _) _)
  have HB1 := Lib.hid B1
  obtain ⟨c0, c1, c2, _, _, _⟩ := B1.at3
  clear B1
  have hr1 : RowD w1 B A 1 c [v] := hr.keep HK1.out.size (fun i hi _ => HK1.out.block i hi)
  obtain ⟨g, o, rfl, hg, hc⟩ := hr1.get (i := 0) (x := v) rfl
  have e0 : w1.cell? ⟨g, o, none⟩ = some (.int .i64 v.k) := by have := hc 0 _ rfl; simpa using this
  have e1 : w1.cell? ⟨g, o + 1, none⟩ = some (.slice v.A v.m v.c) := by have := hc 1 _ rfl; simpa using this
  have e2 : w1.cell? ⟨g, o + 2, none⟩ = some (.string v.s) := by have := hc 2 _ rfl; simpa using this
  have HC : Hid (Calls Tryd.prog 22 #[.agg #[.int .i64 v.k, .slice v.A v.m v.c, .string v.s], .int .i64 3] w1 fun e w' => e = .returned (.string (ownB n 3)) ∧ Below w1.heap.size w1 w') := Lib.hid (hT 3 B v w1 (Nat.le_refl _) (hd.under HK1.out) (by omega))
  obtain ⟨y, hy⟩ : ∃ y, ownB n 3 = y := ⟨_, rfl⟩
  rw [hy] at HC HX hbz
  clear hr hd hr1 hc hT hy
  go_enter Tryd.func22, Tryd.ntmps22
  go_wp2_with fail
  refine HC.out.mono ?_
  rintro e w2 ⟨rfl, hb⟩
  have HB := Lib.hid hb
  clear hb hw1 c0 c1 c2 e0 e1 e2 HC
  go_wp2_with fail
  go_ret
  rw [HX.out]
  exact ⟨rfl, HK1.out.trans (HB.out.mono HK1.out.size)⟩

set_option maxHeartbeats 4000000 in
set_option maxRecDepth 100000 in
theorem own_none (w : World) : Calls Tryd.prog 22 #[.agg #[.int .i64 ((0 : Nat) : Int), .slice none 0 0, .string ⟨#[]⟩], .int .i64 0] w fun e w' => e = .returned (.string ⟨#[]⟩) ∧ Below w.heap.size w w' := by
  show Calls Tryd.prog 22 #[.agg #[.int .i64 0, .slice none 0 0, .string ⟨#[]⟩], .int .i64 0] w _
  obtain ⟨w1, hw1⟩ : ∃ w1, w.alloc (.cells #[.int .i64 0, .slice none 0 0, .string ⟨#[]⟩] NOA) = w1 := ⟨_, rfl⟩
  have B1 : Blk w1 w.heap.size NOA #[.int .i64 0, .slice none 0 0, .string ⟨#[]⟩] := by rw [← hw1]; exact Blk.new _ _ _
  have HK1 : Hid (Below w.heap.size w w1) := Lib.hid (by rw [← hw1]; exact (Below.refl _ _).alloc (Nat.le_refl _) _)
  have HB1 := Lib.hid B1
  obtain ⟨c0, c1, c2, _, _, _⟩ := B1.at3
  clear B1
  go_enter Tryd.func22, Tryd.ntmps22
  go_wp2_with fail
  go_ret
  exact ⟨rfl, HK1.out⟩

set_option maxHeartbeats 8000000 in
set_option maxRecDepth 100000 in
theorem text_rowD0 (l : List Nd) (hT : ∀ n ∈ l, TextD n) (wi B : Nat) (A : Option Addr) (m c : Nat) (xs : List DV) (w : World) (hwi : wi ≤ 3) (hr : RowD w B A m c xs) (hlm : l.length = m) (hnd : ∀ (i : Nat) n v, l[i]? = some n → xs[i]? = some v → DNd w B n v) (hsz : (ownN (.row 0 l) wi).length ≤ 1000000) (hm : m ≤ 1000000) : Calls Tryd.prog 22 #[.agg #[.int .i64 1, .slice A m c, .string ⟨#[]⟩], .int .i64 wi] w fun e w' => e = .returned (.string (ownB (.row 0 l) wi)) ∧ Below w.heap.size w w' := by
  have hll : (ownL l 0).length ≤ 1000000 ∧ (0 + 1 < wi → (ownL l 0).length + 2 ≤ 1000000) := by
    rw [ownN] at hsz
    split at hsz
    · simp at hsz
      exact ⟨by omega, fun _ => by omega⟩
    · exact ⟨hsz, fun h => by contradiction⟩
  have HLL := Lib.hid hll
  have hsz9 := hll.1
  have HSEP : Hid ((sepB 0) = ⟨#[32, 111, 114, 32]⟩) := Lib.hid rfl
  have HT := Lib.hid hT
  have HND := Lib.hid hnd
  have HLM := Lib.hid hlm
  obtain ⟨w1, hw1⟩ : ∃ w1, w.alloc (.cells #[.int .i64 1, .slice A m c, .string ⟨#[]⟩] NOA) = w1 := ⟨_, rfl⟩
  have B1 : Blk w1 w.heap.size NOA #[.int .i64 1, .slice A m c, .string ⟨#[]⟩] := by rw [← hw1]; exact Blk.new _ _ _
  have HK1 : Hid (Below w.heap.size w w1) := Lib.hid (by rw [← hw1]; exact (Below.refl _ _).alloc (Nat.le_refl _) _)
  have HB1 := Lib.hid B1
  obtain ⟨c0, c1, c2, _, _, _⟩ := B1.at3
  clear B1
  have HR1 := Lib.hid (hr.keep HK1.out.size (fun i hi _ => HK1.out.block i hi))
  have HXL := Lib.hid hr.len
  have HE0 : Hid (ownT 0 (l.take 0) = ⟨#[]⟩) := Lib.hid rfl
  clear hT hnd hlm hr hsz hll
  go_enter Tryd.func22, Tryd.ntmps22
  go_wp2_with fail
  clear hw1
  go_loopw [5, 7] (fun s5 i7 wr => ∃ (i : Nat) (x : ByteArray), i ≤ m ∧ i7 = .int .i64 i ∧ s5 = .string x ∧ Hid (x = ownT 0 (l.take i)) ∧ Hid (Below w1.heap.size w1 wr)) (fun _ i7 _ => m - (intOf i7).toNat)
  case atStart => exact ⟨0, _, Nat.zero_le _, rfl, rfl, Lib.hid HE0.out.symm, Lib.hid (Below.refl _ _)⟩
  case round =>
    obtain ⟨i, x, him, rfl, rfl, hx, hbw⟩ := hrel
    have HBR : Hid (Blk wr w.heap.size NOA #[.int .i64 1, .slice A m c, .string ⟨#[]⟩]) := Lib.hid (HB1.out.under hbw.out)
    obtain ⟨d0, d1, d2, _, _, _⟩ := HBR.out.at3
    have hxz : x.size ≤ (ownL l 0).length := by rw [hx.out, ownT_sz]; exact ownL_take _ _ _
    clear c0 c1 c2
    by_cases hi : i < m
    · have hi2 : (i : Int) < (m : Int) := by omega
      obtain ⟨n, hn⟩ : ∃ n, l[i]? = some n := ⟨_, List.getElem?_eq_getElem (by rw [HLM.out]; exact hi)⟩
      obtain ⟨v, hv⟩ : ∃ v, xs[i]? = some v := ⟨_, List.getElem?_eq_getElem (by rw [HXL.out]; exact hi)⟩
      have hrr : RowD wr B A m c xs := HR1.out.keep hbw.out.size (fun j hj _ => hbw.out.block j hj)
      obtain ⟨g, o, hA, hg, hc⟩ := hrr.get hv
      subst hA
      have HCE : Hid (∀ W, Below wr.heap.size wr W → W.cell? ⟨w.heap.size, 0, none⟩ = some (.int .i64 1) ∧ W.cell? ⟨w.heap.size, 1, none⟩ = some (.slice (some ⟨g, o, none⟩) m c) ∧ W.cell? ⟨g, o + i * 3, none⟩ = some (.int .i64 v.k) ∧ W.cell? ⟨g, o + i * 3 + 1, none⟩ = some (.slice v.A v.m v.c) ∧ W.cell? ⟨g, o + i * 3 + 2, none⟩ = some (.string v.s)) := Lib.hid (fun W hW => by
        have k := HBR.out.under hW
        have kc : ∀ j, W.cell? ⟨g, o + (i * 3 + j), none⟩ = wr.cell? ⟨g, o + (i * 3 + j), none⟩ := fun j => hW.cell hg
        exact ⟨k.cell 0, k.cell 1, by have := (kc 0).trans (hc 0 _ rfl); simpa using this, by have := (kc 1).trans (hc 1 _ rfl); simpa [Nat.add_assoc] using this, by have := (kc 2).trans (hc 2 _ rfl); simpa [Nat.add_assoc] using this⟩)
      have HMEM : Hid (n ∈ l) := Lib.hid (List.mem_of_getElem? hn)
      have hnl : (ownN n (0 + 1)).length ≤ (ownL l 0).length := ownL_mem HMEM.out
      have HNXT : Hid (ownL (l.take (i + 1)) 0 = ownL (l.take i) 0 ++ ((if l.take i = [] then [] else sepW 0) ++ ownN n (0 + 1))) := Lib.hid (by
        rw [List.take_add_one, hn]
        exact ownL_snoc 0 n (l.take i))
      have HTK : Hid (l.take (i + 1) = l.take i ++ [n]) := Lib.hid (by rw [List.take_add_one, hn]; rfl)
      have hnx : (ownL (l.take (i + 1)) 0).length ≤ (ownL l 0).length := ownL_take _ _ _
      obtain ⟨y, hy⟩ : ∃ y, ownB n (0 + 1) = y := ⟨_, rfl⟩
      have HY := Lib.hid hy
      have HC : Hid (Calls Tryd.prog 22 #[.agg #[.int .i64 v.k, .slice v.A v.m v.c, .string v.s], .int .i64 1] wr.drew fun e w' => e = .returned (.string y) ∧ Below wr.heap.size wr w') := Lib.hid (by
        have h1 : DNd wr.drew B n v := ((HND.out i n v hn hv).under HK1.out).under (below_drew hbw.out)
        have := HT.out n HMEM.out (0 + 1) B v wr.drew (by omega) h1 (by omega)
        rw [hy] at this
        exact this.mono fun e w' ⟨a, b⟩ => ⟨a, (below_drew (Below.refl _ _)).trans b⟩)
      have HS0 : Hid (Below wr.heap.size wr wr.drew) := Lib.hid (below_drew (Below.refl _ _))
      clear hn hv hrr hc hy
      by_cases h0 : i = 0
      · have HFIN : Hid (x ++ y = ownT 0 (l.take (i + 1))) := Lib.hid (by
          rw [HTK.out, hx.out, h0, ← HY.out]
          rw [List.take_zero, List.nil_append, ownT_first]
          refine ba_ext ?_
          rw [ba_app]
          simp [ownT, ownL])
        have hxz2 : x.size + y.size ≤ 1000000 := by
          have h1 : (x ++ y).size = x.size + y.size := by simp
          rw [← h1, HFIN.out, ownT_sz]
          omega
        subst h0
        simp only [Nat.zero_mul, Nat.add_zero] at HCE
        go_upto_region 13 with fail
        clear d0 d1 d2
        refine wp_plan (fun V => Below wr.heap.size wr V) [(0, false), (1, false), (2, false), (3, false), (4, false), (5, false), (6, false), (7, false), (8, true), (9, false), (10, false)] (by kernel_rfl) (by kernel_rfl) HS0.out ?_
        simp only [planL, List.getElem?_cons_zero, List.getElem?_cons_succ]
        repeat (first | (refine plan_on _ (by rfl) (fun W hW => by (obtain ⟨q0, q1, q2, q3, q4⟩ := HCE.out W hW; go_simp; try (first | with_reducible rfl | rw [if_neg (by omega)]))) ?_; simp only [Act.put, List.setIfInBounds_toArray, List.set_cons_zero, List.set_cons_succ]) | (refine plan_off (by rfl) ?_; simp only [Act.put, List.setIfInBounds_toArray, List.set_cons_zero, List.set_cons_succ]))
        refine plan_turn ?_
        go_wp2_with fail
        refine HC.out.mono ?_
        rintro e w3 ⟨rfl, hb3⟩
        have HB3 := Lib.hid hb3
        clear hb3 HC
        go_wp2_with fail
        refine ⟨HB3.out, ?_⟩
        repeat (first | (refine plan_on _ (by rfl) (fun W hW => by (obtain ⟨q0, q1, q2, q3, q4⟩ := HCE.out W hW; go_simp; try (first | with_reducible rfl | rw [if_neg (by omega)]))) ?_; simp only [Act.put, List.setIfInBounds_toArray, List.set_cons_zero, List.set_cons_succ]) | (refine plan_off (by rfl) ?_; simp only [Act.put, List.setIfInBounds_toArray, List.set_cons_zero, List.set_cons_succ]))
        refine plan_done ?_
        go_wp2_with fail
        go_roundw
        case rel => exact ⟨0 + 1, _, by omega, by go_num, rfl, Lib.hid HFIN.out, Lib.hid (hbw.out.trans (HB3.out.mono hbw.out.size))⟩
        case measure => simp [intOf]; omega
      · have h00 : (0 : Int) < (i : Int) := by omega
        have hne : l.take i ≠ [] := fun e => by
          have h1 := congrArg List.length e
          rw [List.length_take, HLM.out] at h1
          simp at h1
          omega
        have HFIN : Hid (x ++ ⟨#[32, 111, 114, 32]⟩ ++ y = ownT 0 (l.take (i + 1))) := Lib.hid (by
          rw [HTK.out, hx.out, ← HY.out, ← HSEP.out]
          exact (ownT_next hne).symm)
        have hxz2 : x.size + 4 + y.size ≤ 1000000 := by
          have h1 : (x ++ ⟨#[32, 111, 114, 32]⟩ ++ y).size = x.size + 4 + y.size := by simp [ByteArray.size_append]; rfl
          rw [← h1, HFIN.out, ownT_sz]
          omega
        have hxw : (x ++ ⟨#[32, 111, 114, 32]⟩).size = x.size + 4 := by simp [ByteArray.size_append]; rfl
        clear hne h0
        go_upto_region 13 with fail
        clear d0 d1 d2
        refine wp_plan (fun V => Below wr.heap.size wr V) [(0, false), (1, false), (2, false), (3, false), (4, false), (5, false), (6, false), (7, false), (8, true), (9, false), (10, false)] (by kernel_rfl) (by kernel_rfl) HS0.out ?_
        simp only [planL, List.getElem?_cons_zero, List.getElem?_cons_succ]
        repeat (first | (refine plan_on _ (by rfl) (fun W hW => by (obtain ⟨q0, q1, q2, q3, q4⟩ := HCE.out W hW; go_simp; try (first | with_reducible rfl | rw [if_neg (by omega)]))) ?_; simp only [Act.put, List.setIfInBounds_toArray, List.set_cons_zero, List.set_cons_succ]) | (refine plan_off (by rfl) ?_; simp only [Act.put, List.setIfInBounds_toArray, List.set_cons_zero, List.set_cons_succ]))
        refine plan_turn ?_
        go_wp2_with fail
        refine HC.out.mono ?_
        rintro e w3 ⟨rfl, hb3⟩
        have HB3 := Lib.hid hb3
        clear hb3 HC
        go_wp2_with fail
        refine ⟨HB3.out, ?_⟩
        repeat (first | (refine plan_on _ (by rfl) (fun W hW => by (obtain ⟨q0, q1, q2, q3, q4⟩ := HCE.out W hW; go_simp; try (first | with_reducible rfl | rw [if_neg (by omega)]))) ?_; simp only [Act.put, List.setIfInBounds_toArray, List.set_cons_zero, List.set_cons_succ]) | (refine plan_off (by rfl) ?_; simp only [Act.put, List.setIfInBounds_toArray, List.set_cons_zero, List.set_cons_succ]))
        refine plan_done ?_
        go_wp2_with fail
        go_roundw
        case rel => exact ⟨i + 1, _, by omega, by go_num, rfl, Lib.hid HFIN.out, Lib.hid (hbw.out.trans (HB3.out.mono hbw.out.size))⟩
        case measure => simp [intOf]; omega
    · obtain rfl : i = m := by omega
      have HALL : Hid (x = ownT 0 l) := Lib.hid (by rw [hx.out, List.take_of_length_le (by rw [HLM.out]; exact Nat.le_refl _)])
      by_cases hbr : 0 + 1 < wi
      · have q1 : (1 : Int) < (wi : Int) := by omega
        have hx3 := HLL.out.2 hbr
        have HX : Hid ((⟨#[40]⟩ : ByteArray) ++ x ++ ⟨#[41]⟩ = ownB (.row 0 l) wi) := Lib.hid (by
          refine ba_ext ?_
          rw [ba_app, ba_app, HALL.out]
          unfold ownB
          rw [ownN, if_pos hbr]
          simp [ownT])
        have hx4 : ((⟨#[40]⟩ : ByteArray) ++ x).size = 1 + x.size := by simp [ByteArray.size_append]; rfl
        clear hbr
        go_wp2_with fail
        go_ret
        rw [← HX.out]
        exact ⟨rfl, HK1.out.trans (hbw.out.mono HK1.out.size)⟩
      · have q1 : ¬ (1 : Int) < (wi : Int) := by omega
        have HX : Hid (x = ownB (.row 0 l) wi) := Lib.hid (by
          rw [HALL.out]
          unfold ownB ownT
          rw [ownN, if_neg hbr])
        clear hbr
        go_wp2_with fail
        go_ret
        rw [← HX.out]
        exact ⟨rfl, HK1.out.trans (hbw.out.mono HK1.out.size)⟩

set_option maxHeartbeats 8000000 in
set_option maxRecDepth 100000 in
theorem text_rowD1 (l : List Nd) (hT : ∀ n ∈ l, TextD n) (wi B : Nat) (A : Option Addr) (m c : Nat) (xs : List DV) (w : World) (hwi : wi ≤ 3) (hr : RowD w B A m c xs) (hlm : l.length = m) (hnd : ∀ (i : Nat) n v, l[i]? = some n → xs[i]? = some v → DNd w B n v) (hsz : (ownN (.row 1 l) wi).length ≤ 1000000) (hm : m ≤ 1000000) : Calls Tryd.prog 22 #[.agg #[.int .i64 2, .slice A m c, .string ⟨#[]⟩], .int .i64 wi] w fun e w' => e = .returned (.string (ownB (.row 1 l) wi)) ∧ Below w.heap.size w w' := by
  have hll : (ownL l 1).length ≤ 1000000 ∧ (1 + 1 < wi → (ownL l 1).length + 2 ≤ 1000000) := by
    rw [ownN] at hsz
    split at hsz
    · simp at hsz
      exact ⟨by omega, fun _ => by omega⟩
    · exact ⟨hsz, fun h => by contradiction⟩
  have HLL := Lib.hid hll
  have hsz9 := hll.1
  have HSEP : Hid ((sepB 1) = ⟨#[32, 97, 110, 100, 32]⟩) := Lib.hid rfl
  have HT := Lib.hid hT
  have HND := Lib.hid hnd
  have HLM := Lib.hid hlm
  obtain ⟨w1, hw1⟩ : ∃ w1, w.alloc (.cells #[.int .i64 2, .slice A m c, .string ⟨#[]⟩] NOA) = w1 := ⟨_, rfl⟩
  have B1 : Blk w1 w.heap.size NOA #[.int .i64 2, .slice A m c, .string ⟨#[]⟩] := by rw [← hw1]; exact Blk.new _ _ _
  have HK1 : Hid (Below w.heap.size w w1) := Lib.hid (by rw [← hw1]; exact (Below.refl _ _).alloc (Nat.le_refl _) _)
  have HB1 := Lib.hid B1
  obtain ⟨c0, c1, c2, _, _, _⟩ := B1.at3
  clear B1
  have HR1 := Lib.hid (hr.keep HK1.out.size (fun i hi _ => HK1.out.block i hi))
  have HXL := Lib.hid hr.len
  have HE0 : Hid (ownT 1 (l.take 0) = ⟨#[]⟩) := Lib.hid rfl
  clear hT hnd hlm hr hsz hll
  go_enter Tryd.func22, Tryd.ntmps22
  go_wp2_with fail
  clear hw1
  go_loopw [5, 7] (fun s5 i7 wr => ∃ (i : Nat) (x : ByteArray), i ≤ m ∧ i7 = .int .i64 i ∧ s5 = .string x ∧ Hid (x = ownT 1 (l.take i)) ∧ Hid (Below w1.heap.size w1 wr)) (fun _ i7 _ => m - (intOf i7).toNat)
  case atStart => exact ⟨0, _, Nat.zero_le _, rfl, rfl, Lib.hid HE0.out.symm, Lib.hid (Below.refl _ _)⟩
  case round =>
    obtain ⟨i, x, him, rfl, rfl, hx, hbw⟩ := hrel
    have HBR : Hid (Blk wr w.heap.size NOA #[.int .i64 2, .slice A m c, .string ⟨#[]⟩]) := Lib.hid (HB1.out.under hbw.out)
    obtain ⟨d0, d1, d2, _, _, _⟩ := HBR.out.at3
    have hxz : x.size ≤ (ownL l 1).length := by rw [hx.out, ownT_sz]; exact ownL_take _ _ _
    clear c0 c1 c2
    by_cases hi : i < m
    · have hi2 : (i : Int) < (m : Int) := by omega
      obtain ⟨n, hn⟩ : ∃ n, l[i]? = some n := ⟨_, List.getElem?_eq_getElem (by rw [HLM.out]; exact hi)⟩
      obtain ⟨v, hv⟩ : ∃ v, xs[i]? = some v := ⟨_, List.getElem?_eq_getElem (by rw [HXL.out]; exact hi)⟩
      have hrr : RowD wr B A m c xs := HR1.out.keep hbw.out.size (fun j hj _ => hbw.out.block j hj)
      obtain ⟨g, o, hA, hg, hc⟩ := hrr.get hv
      subst hA
      have HCE : Hid (∀ W, Below wr.heap.size wr W → W.cell? ⟨w.heap.size, 0, none⟩ = some (.int .i64 2) ∧ W.cell? ⟨w.heap.size, 1, none⟩ = some (.slice (some ⟨g, o, none⟩) m c) ∧ W.cell? ⟨g, o + i * 3, none⟩ = some (.int .i64 v.k) ∧ W.cell? ⟨g, o + i * 3 + 1, none⟩ = some (.slice v.A v.m v.c) ∧ W.cell? ⟨g, o + i * 3 + 2, none⟩ = some (.string v.s)) := Lib.hid (fun W hW => by
        have k := HBR.out.under hW
        have kc : ∀ j, W.cell? ⟨g, o + (i * 3 + j), none⟩ = wr.cell? ⟨g, o + (i * 3 + j), none⟩ := fun j => hW.cell hg
        exact ⟨k.cell 0, k.cell 1, by have := (kc 0).trans (hc 0 _ rfl); simpa using this, by have := (kc 1).trans (hc 1 _ rfl); simpa [Nat.add_assoc] using this, by have := (kc 2).trans (hc 2 _ rfl); simpa [Nat.add_assoc] using this⟩)
      have HMEM : Hid (n ∈ l) := Lib.hid (List.mem_of_getElem? hn)
      have hnl : (ownN n (1 + 1)).length ≤ (ownL l 1).length := ownL_mem HMEM.out
      have HNXT : Hid (ownL (l.take (i + 1)) 1 = ownL (l.take i) 1 ++ ((if l.take i = [] then [] else sepW 1) ++ ownN n (1 + 1))) := Lib.hid (by
        rw [List.take_add_one, hn]
        exact ownL_snoc 1 n (l.take i))
      have HTK : Hid (l.take (i + 1) = l.take i ++ [n]) := Lib.hid (by rw [List.take_add_one, hn]; rfl)
      have hnx : (ownL (l.take (i + 1)) 1).length ≤ (ownL l 1).length := ownL_take _ _ _
      obtain ⟨y, hy⟩ : ∃ y, ownB n (1 + 1) = y := ⟨_, rfl⟩
      have HY := Lib.hid hy
      have HC : Hid (Calls Tryd.prog 22 #[.agg #[.int .i64 v.k, .slice v.A v.m v.c, .string v.s], .int .i64 2] wr.drew fun e w' => e = .returned (.string y) ∧ Below wr.heap.size wr w') := Lib.hid (by
        have h1 : DNd wr.drew B n v := ((HND.out i n v hn hv).under HK1.out).under (below_drew hbw.out)
        have := HT.out n HMEM.out (1 + 1) B v wr.drew (by omega) h1 (by omega)
        rw [hy] at this
        exact this.mono fun e w' ⟨a, b⟩ => ⟨a, (below_drew (Below.refl _ _)).trans b⟩)
      have HS0 : Hid (Below wr.heap.size wr wr.drew) := Lib.hid (below_drew (Below.refl _ _))
      clear hn hv hrr hc hy
      by_cases h0 : i = 0
      · have HFIN : Hid (x ++ y = ownT 1 (l.take (i + 1))) := Lib.hid (by
          rw [HTK.out, hx.out, h0, ← HY.out]
          rw [List.take_zero, List.nil_append, ownT_first]
          refine ba_ext ?_
          rw [ba_app]
          simp [ownT, ownL])
        have hxz2 : x.size + y.size ≤ 1000000 := by
          have h1 : (x ++ y).size = x.size + y.size := by simp
          rw [← h1, HFIN.out, ownT_sz]
          omega
        subst h0
        simp only [Nat.zero_mul, Nat.add_zero] at HCE
        go_upto_region 13 with fail
        clear d0 d1 d2
        refine wp_plan (fun V => Below wr.heap.size wr V) [(0, false), (1, false), (2, false), (3, false), (4, false), (5, false), (6, false), (7, false), (8, true), (9, false), (10, false)] (by kernel_rfl) (by kernel_rfl) HS0.out ?_
        simp only [planL, List.getElem?_cons_zero, List.getElem?_cons_succ]
        repeat (first | (refine plan_on _ (by rfl) (fun W hW => by (obtain ⟨q0, q1, q2, q3, q4⟩ := HCE.out W hW; go_simp; try (first | with_reducible rfl | rw [if_neg (by omega)]))) ?_; simp only [Act.put, List.setIfInBounds_toArray, List.set_cons_zero, List.set_cons_succ]) | (refine plan_off (by rfl) ?_; simp only [Act.put, List.setIfInBounds_toArray, List.set_cons_zero, List.set_cons_succ]))
        refine plan_turn ?_
        go_wp2_with fail
        refine HC.out.mono ?_
        rintro e w3 ⟨rfl, hb3⟩
        have HB3 := Lib.hid hb3
        clear hb3 HC
        go_wp2_with fail
        refine ⟨HB3.out, ?_⟩
        repeat (first | (refine plan_on _ (by rfl) (fun W hW => by (obtain ⟨q0, q1, q2, q3, q4⟩ := HCE.out W hW; go_simp; try (first | with_reducible rfl | rw [if_neg (by omega)]))) ?_; simp only [Act.put, List.setIfInBounds_toArray, List.set_cons_zero, List.set_cons_succ]) | (refine plan_off (by rfl) ?_; simp only [Act.put, List.setIfInBounds_toArray, List.set_cons_zero, List.set_cons_succ]))
        refine plan_done ?_
        go_wp2_with fail
        go_roundw
        case rel => exact ⟨0 + 1, _, by omega, by go_num, rfl, Lib.hid HFIN.out, Lib.hid (hbw.out.trans (HB3.out.mono hbw.out.size))⟩
        case measure => simp [intOf]; omega
      · have h00 : (0 : Int) < (i : Int) := by omega
        have hne : l.take i ≠ [] := fun e => by
          have h1 := congrArg List.length e
          rw [List.length_take, HLM.out] at h1
          simp at h1
          omega
        have HFIN : Hid (x ++ ⟨#[32, 97, 110, 100, 32]⟩ ++ y = ownT 1 (l.take (i + 1))) := Lib.hid (by
          rw [HTK.out, hx.out, ← HY.out, ← HSEP.out]
          exact (ownT_next hne).symm)
        have hxz2 : x.size + 5 + y.size ≤ 1000000 := by
          have h1 : (x ++ ⟨#[32, 97, 110, 100, 32]⟩ ++ y).size = x.size + 5 + y.size := by simp [ByteArray.size_append]; rfl
          rw [← h1, HFIN.out, ownT_sz]
          omega
        have hxw : (x ++ ⟨#[32, 97, 110, 100, 32]⟩).size = x.size + 5 := by simp [ByteArray.size_append]; rfl
        clear hne h0
        go_upto_region 13 with fail
        clear d0 d1 d2
        refine wp_plan (fun V => Below wr.heap.size wr V) [(0, false), (1, false), (2, false), (3, false), (4, false), (5, false), (6, false), (7, false), (8, true), (9, false), (10, false)] (by kernel_rfl) (by kernel_rfl) HS0.out ?_
        simp only [planL, List.getElem?_cons_zero, List.getElem?_cons_succ]
        repeat (first | (refine plan_on _ (by rfl) (fun W hW => by (obtain ⟨q0, q1, q2, q3, q4⟩ := HCE.out W hW; go_simp; try (first | with_reducible rfl | rw [if_neg (by omega)]))) ?_; simp only [Act.put, List.setIfInBounds_toArray, List.set_cons_zero, List.set_cons_succ]) | (refine plan_off (by rfl) ?_; simp only [Act.put, List.setIfInBounds_toArray, List.set_cons_zero, List.set_cons_succ]))
        refine plan_turn ?_
        go_wp2_with fail
        refine HC.out.mono ?_
        rintro e w3 ⟨rfl, hb3⟩
        have HB3 := Lib.hid hb3
        clear hb3 HC
        go_wp2_with fail
        refine ⟨HB3.out, ?_⟩
        repeat (first | (refine plan_on _ (by rfl) (fun W hW => by (obtain ⟨q0, q1, q2, q3, q4⟩ := HCE.out W hW; go_simp; try (first | with_reducible rfl | rw [if_neg (by omega)]))) ?_; simp only [Act.put, List.setIfInBounds_toArray, List.set_cons_zero, List.set_cons_succ]) | (refine plan_off (by rfl) ?_; simp only [Act.put, List.setIfInBounds_toArray, List.set_cons_zero, List.set_cons_succ]))
        refine plan_done ?_
        go_wp2_with fail
        go_roundw
        case rel => exact ⟨i + 1, _, by omega, by go_num, rfl, Lib.hid HFIN.out, Lib.hid (hbw.out.trans (HB3.out.mono hbw.out.size))⟩
        case measure => simp [intOf]; omega
    · obtain rfl : i = m := by omega
      have HALL : Hid (x = ownT 1 l) := Lib.hid (by rw [hx.out, List.take_of_length_le (by rw [HLM.out]; exact Nat.le_refl _)])
      by_cases hbr : 1 + 1 < wi
      · have q1 : (2 : Int) < (wi : Int) := by omega
        have hx3 := HLL.out.2 hbr
        have HX : Hid ((⟨#[40]⟩ : ByteArray) ++ x ++ ⟨#[41]⟩ = ownB (.row 1 l) wi) := Lib.hid (by
          refine ba_ext ?_
          rw [ba_app, ba_app, HALL.out]
          unfold ownB
          rw [ownN, if_pos hbr]
          simp [ownT])
        have hx4 : ((⟨#[40]⟩ : ByteArray) ++ x).size = 1 + x.size := by simp [ByteArray.size_append]; rfl
        clear hbr
        go_wp2_with fail
        go_ret
        rw [← HX.out]
        exact ⟨rfl, HK1.out.trans (hbw.out.mono HK1.out.size)⟩
      · have q1 : ¬ (2 : Int) < (wi : Int) := by omega
        have HX : Hid (x = ownB (.row 1 l) wi) := Lib.hid (by
          rw [HALL.out]
          unfold ownB ownT
          rw [ownN, if_neg hbr])
        clear hbr
        go_wp2_with fail
        go_ret
        rw [← HX.out]
        exact ⟨rfl, HK1.out.trans (hbw.out.mono HK1.out.size)⟩

theorem textD_all {n : Nd} (h : NF n) : TextD n := by
  induction h with
  | @atom a h =>
    intro wi B v w hwi hd hsz
    cases hd
    exact text_atomD a _ rfl wi w
  | @no n h ih =>
    intro wi B v w hwi hd hsz
    cases hd with
    | no hr h => exact text_noD n ih wi B _ _ _ w hr h hsz
  | @row k l hk h hf hl ih =>
    intro wi B v w hwi hd hsz
    cases hd with
    | @row k l A m c xs hr hlm hnd =>
      have hm : m ≤ 1000000 := by
        rw [← hlm]
        have h1 : ∀ l : List Nd, (∀ n ∈ l, NF n) → l.length ≤ (ownM l k).length := by
          intro l
          induction l with
          | nil => intro _; exact Nat.zero_le _
          | cons n l ih =>
            intro h
            rw [ownM]
            have h2 := ih (fun x hx => h x (by simp [hx]))
            have h3 := ownN_pos (h n (by simp)) (k + 1)
            simp only [List.length_append, List.length_cons]
            omega
        have h2 : l.length ≤ (ownL l k).length := by
          cases l with
          | nil => exact Nat.zero_le _
          | cons n l =>
            rw [ownL]
            have h3 := h1 l (fun x hx => h x (by simp [hx]))
            have h4 := ownN_pos (h n (by simp)) (k + 1)
            simp only [List.length_append, List.length_cons]
            omega
        rw [ownN] at hsz
        split at hsz
        · simp at hsz; omega
        · omega
      rcases (show k = 0 ∨ k = 1 by omega) with rfl | rfl
      · exact text_rowD0 l ih wi B A m c xs w hwi hr hlm hnd hsz hm
      · exact text_rowD1 l ih wi B A m c xs w hwi hr hlm hnd hsz hm
def ruleB (r : Option Nd) : ByteArray := match r with | none => ⟨#[]⟩ | some n => ownB n 0
set_option maxHeartbeats 4000000 in
set_option maxRecDepth 100000 in
theorem dtext_any (r : Option Nd) (B : Nat) (v : DV) (w : World) (hd : DRule w B (some r) v) (hsz : (ruleB r).size ≤ 1000000) : Calls Tryd.prog 12 #[.agg #[.int .i64 v.k, .slice v.A v.m v.c, .string v.s]] w fun e w' => e = .returned (.string (ruleB r)) ∧ Below w.heap.size w w' := by
  obtain ⟨w1, hw1⟩ : ∃ w1, w.alloc (.cells #[.int .i64 v.k, .slice v.A v.m v.c, .string v.s] NOA) = w1 := ⟨_, rfl⟩
  have B1 : Blk w1 w.heap.size NOA #[.int .i64 v.k, .slice v.A v.m v.c, .string v.s] := by rw [← hw1]; exact Blk.new _ _ _
  have HK1 : Hid (Below w.heap.size w w1) := Lib.hid (by rw [← hw1]; exact (Below.refl _ _).alloc (Nat.le_refl _) _)
  obtain ⟨c0, c1, c2, _, _, _⟩ := B1.at3
  have HC : Hid (Calls Tryd.prog 22 #[.agg #[.int .i64 v.k, .slice v.A v.m v.c, .string v.s], .int .i64 0] w1 fun e w' => e = .returned (.string (ruleB r)) ∧ Below w1.heap.size w1 w') := Lib.hid (by
    match r, hd, hsz with
    | none, hd, hsz =>
      have e : v = ⟨0, none, 0, 0, ⟨#[]⟩⟩ := hd
      subst e
      exact own_none w1
    | some n, hd, hsz => exact textD_all hd.1 0 B v w1 (by omega) (hd.2.under HK1.out) (by rw [← ownB_sz]; exact hsz))
  clear B1 hd hsz
  go_enter Tryd.func12, Tryd.ntmps12
  go_wp2_with fail
  refine HC.out.mono ?_
  rintro e w2 ⟨rfl, hb⟩
  have HB := Lib.hid hb
  clear hb hw1 c0 c1 c2 HC
  go_wp2_with fail
  go_ret
  exact ⟨rfl, HK1.out.trans (HB.out.mono HK1.out.size)⟩
end Go.Proofs.YtpgbgeofhcpocaaDoor
