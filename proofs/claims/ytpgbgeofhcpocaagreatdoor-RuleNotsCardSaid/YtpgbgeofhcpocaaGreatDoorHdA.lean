/- The document of rules: an atom. -/
import Derived.Test.YtpgbgeofhcpocaaGreatDoorHdT
namespace Go.Proofs.YtpgbgeofhcpocaaGreatDoor
open Go.RowKit Go.Maps Go.Shelf
set_option linter.unusedVariables false

theorem mem_dec (x : ByteArray) (l : List ByteArray) : (open Classical in decide (x ∈ l)) = memB x l := by
  by_cases h : x ∈ l
  · rw [(memB_iff _ _).2 h]
    classical exact decide_eq_true h
  · rw [show memB x l = false from Bool.eq_false_iff.2 (fun e => h ((memB_iff _ _).1 e))]
    classical exact decide_eq_false h
theorem drop_ext {s p y : ByteArray} (h : s.data.toList = p.data.toList ++ y.data.toList) : s.extract 0 p.size = p ∧ s.extract p.size s.size = y := by
  have hp : p.data.toList.length = p.size := by simp
  have hs : s.data.toList.length = s.size := by simp
  constructor
  · refine ba_ext ?_
    have e1 : (s.extract 0 p.size).data.toList = s.data.toList.take p.size := by simp
    rw [e1, h, List.take_append_of_le_length (by omega), List.take_of_length_le (by omega)]
  · refine ba_ext ?_
    have e2 : (s.extract p.size s.size).data.toList = s.data.toList.drop p.size := by simp [List.take_of_length_le]
    rw [e2, h, List.drop_append_of_le_length (by omega), List.drop_of_length_le (by omega), List.nil_append]
theorem head4 {s : ByteArray} {a b c d : UInt8} {l : List UInt8} (h : s.data.toList = a :: b :: c :: d :: l) : s.extract 0 4 = ⟨#[a, b, c, d]⟩ := by
  refine ba_ext ?_
  have e1 : (s.extract 0 4).data.toList = s.data.toList.take 4 := by simp
  rw [e1, h]
  rfl
theorem num_is {r : ByteArray} {n : Nat} {i : Int} (h : NumIs r i) (hr : r.data.toList = Lib.decDigits n) (hn : n ≤ 1099511627776) : i = n := by
  rcases h with ⟨_, h⟩ | ⟨m, rfl, _, h⟩
  · exact absurd hr (h n hn)
  · rw [hr] at h; rw [dig_inj h]

set_option maxHeartbeats 4000000 in
set_option maxRecDepth 100000 in
theorem hatom_follows (z : Fz) (w : World) : Calls Tryz.prog 16 #[.string ⟨#[102, 111, 108, 108, 111, 119, 115]⟩, .agg #[.string z.name, .string z.maker, .string z.tags, .int .i64 z.stock, .int .i64 z.price, .int .i64 z.born, .bool z.listed, .int .i64 z.now, .int .i64 z.age, .int .i64 z.fans, .bool z.follows, .bool z.done]] w (ROf z.follows w) := by
  obtain ⟨w1, hw1⟩ : ∃ w1, w.alloc (.cells #[.string z.name, .string z.maker, .string z.tags, .int .i64 z.stock, .int .i64 z.price, .int .i64 z.born, .bool z.listed, .int .i64 z.now, .int .i64 z.age, .int .i64 z.fans, .bool z.follows, .bool z.done] FAC) = w1 := ⟨_, rfl⟩
  have k1 : Below w.heap.size w w1 := by rw [← hw1]; exact (Below.refl _ _).alloc (Nat.le_refl _) _
  have HBF : Hid (Blk w1 w.heap.size FAC (fzA z)) := Lib.hid (by rw [← hw1]; exact Blk.new _ _ _)
  obtain ⟨f0, f1, f2, f3, f4, f5, f6, f7, f8, f9, f10, f11⟩ := fz_all HBF.out
  have HK := Lib.hid k1
  clear k1
  go_enter Tryz.func16, Tryz.ntmps16
  go_wp2_with fail
  go_ret
  exact ⟨rfl, HK.out⟩
set_option maxHeartbeats 4000000 in
set_option maxRecDepth 100000 in
theorem hatom_done (z : Fz) (w : World) : Calls Tryz.prog 16 #[.string ⟨#[100, 111, 110, 101]⟩, .agg #[.string z.name, .string z.maker, .string z.tags, .int .i64 z.stock, .int .i64 z.price, .int .i64 z.born, .bool z.listed, .int .i64 z.now, .int .i64 z.age, .int .i64 z.fans, .bool z.follows, .bool z.done]] w (ROf z.done w) := by
  obtain ⟨w1, hw1⟩ : ∃ w1, w.alloc (.cells #[.string z.name, .string z.maker, .string z.tags, .int .i64 z.stock, .int .i64 z.price, .int .i64 z.born, .bool z.listed, .int .i64 z.now, .int .i64 z.age, .int .i64 z.fans, .bool z.follows, .bool z.done] FAC) = w1 := ⟨_, rfl⟩
  have k1 : Below w.heap.size w w1 := by rw [← hw1]; exact (Below.refl _ _).alloc (Nat.le_refl _) _
  have HBF : Hid (Blk w1 w.heap.size FAC (fzA z)) := Lib.hid (by rw [← hw1]; exact Blk.new _ _ _)
  obtain ⟨f0, f1, f2, f3, f4, f5, f6, f7, f8, f9, f10, f11⟩ := fz_all HBF.out
  have HK := Lib.hid k1
  clear k1
  go_enter Tryz.func16, Tryz.ntmps16
  go_wp2_with fail
  go_ret
  exact ⟨rfl, HK.out⟩
set_option maxHeartbeats 4000000 in
set_option maxRecDepth 100000 in
theorem hatom_tag (z : Fz) (hz : z.tags.size ≤ 900000) (s x : ByteArray) (hx : x ≠ ⟨#[]⟩) (hs : s.data.toList = [116, 97, 103, 58] ++ x.data.toList) (w : World) : Calls Tryz.prog 16 #[.string s, .agg #[.string z.name, .string z.maker, .string z.tags, .int .i64 z.stock, .int .i64 z.price, .int .i64 z.born, .bool z.listed, .int .i64 z.now, .int .i64 z.age, .int .i64 z.fans, .bool z.follows, .bool z.done]] w (ROf (holdsL (fzX z) (.tag x)) w) := by
  have HM : Hid (memB x (parts z.tags) = holdsL (fzX z) (.tag x)) := Lib.hid (by
    rw [← tags_same hx z]
    exact (mem_dec x (fzT z)).symm)
  rw [← HM.out]
  have h4 := drop_ext (p := ⟨#[116, 97, 103, 58]⟩) hs
  have hsz : s.size = 4 + x.size := by
    have := congrArg List.length hs
    simp at this
    omega
  have q1 : (s.toList == [102, 111, 108, 108, 111, 119, 115]) = false := lit_no (fun e => by rw [e] at hs; injection hs with h _; exact absurd h (by decide))
  have q2 : (s.toList == [100, 111, 110, 101]) = false := lit_no (fun e => by rw [e] at hs; injection hs with h _; exact absurd h (by decide))
  have q3 : ((s.extract 0 4).toList == [116, 97, 103, 58]) = true := lit_yes h4.1
  have z4 : (4 : Int) ≤ (s.size : Int) := by omega
  have HX : Hid (s.extract 4 s.size = x) := Lib.hid h4.2
  rw [← HX.out]
  clear hs h4 hsz HM
  obtain ⟨w1, hw1⟩ : ∃ w1, w.alloc (.cells #[.string z.name, .string z.maker, .string z.tags, .int .i64 z.stock, .int .i64 z.price, .int .i64 z.born, .bool z.listed, .int .i64 z.now, .int .i64 z.age, .int .i64 z.fans, .bool z.follows, .bool z.done] FAC) = w1 := ⟨_, rfl⟩
  have k1 : Below w.heap.size w w1 := by rw [← hw1]; exact (Below.refl _ _).alloc (Nat.le_refl _) _
  have HBF : Hid (Blk w1 w.heap.size FAC (fzA z)) := Lib.hid (by rw [← hw1]; exact Blk.new _ _ _)
  obtain ⟨f0, f1, f2, f3, f4, f5, f6, f7, f8, f9, f10, f11⟩ := fz_all HBF.out
  have HK := Lib.hid k1
  clear k1
  have HSC : Hid (∀ W, Below w1.heap.size w1 W → W.cell? ⟨w.heap.size, 2, none⟩ = some (.string z.tags)) := Lib.hid (fun W hW => (HBF.out.under hW).cell 2)
  have HTG := Lib.hid (dtags_any z.tags (s.extract 4 s.size) w1.drew hz)
  have HS0 : Hid (Below w1.heap.size w1 w1.drew) := Lib.hid (below_drew (Below.refl _ _))
  clear f0 f1 f2 f3 f4 f5 f6 f7 f8 f9 f10 f11
  obtain ⟨b, hb⟩ : ∃ b, memB (s.extract 4 s.size) (parts z.tags) = b := ⟨_, rfl⟩
  rw [hb] at HTG ⊢
  clear hb
  go_enter Tryz.func16, Tryz.ntmps16
  go_upto_region 6 with fail
  clear hw1
  refine wp_plan (fun V => Below w1.heap.size w1 V) [(0, false), (1, false), (2, false), (3, false), (4, false), (5, true), (6, false)] (by kernel_rfl) (by kernel_rfl) HS0.out ?_
  simp only [planL, List.getElem?_cons_zero, List.getElem?_cons_succ]
  repeat (first | (refine plan_on _ (by rfl) (fun W hW => by (have q7 := HSC.out W hW; go_simp; try (first | with_reducible rfl | rw [if_neg (by omega)]))) ?_; simp only [Act.put, List.setIfInBounds_toArray, List.set_cons_zero, List.set_cons_succ]) | (refine plan_off (by rfl) ?_; simp only [Act.put, List.setIfInBounds_toArray, List.set_cons_zero, List.set_cons_succ]))
  refine plan_turn ?_
  go_wp2_with fail
  refine HTG.out.mono ?_
  rintro e w3 ⟨rfl, hb3⟩
  have HB3 : Hid (Below w1.heap.size w1 w3) := Lib.hid (HS0.out.trans (hb3.mono (Nat.le_refl _)))
  clear hb3 HTG
  go_wp2_with fail
  refine ⟨HB3.out, ?_⟩
  repeat (first | (refine plan_on _ (by rfl) (fun W hW => by (have q7 := HSC.out W hW; go_simp; try (first | with_reducible rfl | rw [if_neg (by omega)]))) ?_; simp only [Act.put, List.setIfInBounds_toArray, List.set_cons_zero, List.set_cons_succ]) | (refine plan_off (by rfl) ?_; simp only [Act.put, List.setIfInBounds_toArray, List.set_cons_zero, List.set_cons_succ]))
  refine plan_done ?_
  go_wp2_with fail
  go_ret
  exact ⟨rfl, HK.out.trans (HB3.out.mono HK.out.size)⟩
set_option maxHeartbeats 4000000 in
set_option maxRecDepth 100000 in
theorem hatom_maker (z : Fz) (s x : ByteArray) (hs : s.data.toList = [109, 97, 107, 101, 114, 58] ++ x.data.toList) (w : World) : Calls Tryz.prog 16 #[.string s, .agg #[.string z.name, .string z.maker, .string z.tags, .int .i64 z.stock, .int .i64 z.price, .int .i64 z.born, .bool z.listed, .int .i64 z.now, .int .i64 z.age, .int .i64 z.fans, .bool z.follows, .bool z.done]] w (ROf (holdsL (fzX z) (.maker x)) w) := by
  have h6 := drop_ext (p := ⟨#[109, 97, 107, 101, 114, 58]⟩) hs
  have hsz : s.size = 6 + x.size := by
    have := congrArg List.length hs
    simp at this
    omega
  have h4 := head4 hs
  have q1 : (s.toList == [102, 111, 108, 108, 111, 119, 115]) = false := lit_no (fun e => by rw [e] at hs; injection hs with h _; exact absurd h (by decide))
  have q2 : (s.toList == [100, 111, 110, 101]) = false := lit_no (fun e => by rw [e] at hs; injection hs with h _; exact absurd h (by decide))
  have q3 : ((s.extract 0 4).toList == [116, 97, 103, 58]) = false := lit_no (fun e => by rw [h4] at e; exact absurd e (by decide))
  have q4 : ((s.extract 0 4).toList == [109, 97, 107, 101]) = true := lit_yes h4
  have z4 : (4 : Int) ≤ (s.size : Int) := by omega
  have z6 : (6 : Int) ≤ (s.size : Int) := by omega
  have HX : Hid (s.extract 6 s.size = x) := Lib.hid h6.2
  have HR : Hid (holdsL (fzX z) (.maker x) = (z.maker.toList == (s.extract 6 s.size).toList)) := Lib.hid (by
    rw [HX.out]
    by_cases h : z.maker = x
    · rw [(beq_list _ _).2 h]; classical exact decide_eq_true h
    · rw [Bool.eq_false_iff.2 (fun e => h ((beq_list _ _).1 e))]; classical exact decide_eq_false h)
  rw [HR.out]
  obtain ⟨b, hb⟩ : ∃ b, (z.maker.toList == (s.extract 6 s.size).toList) = b := ⟨_, rfl⟩
  rw [hb]
  clear hs h6 h4 hsz
  obtain ⟨w1, hw1⟩ : ∃ w1, w.alloc (.cells #[.string z.name, .string z.maker, .string z.tags, .int .i64 z.stock, .int .i64 z.price, .int .i64 z.born, .bool z.listed, .int .i64 z.now, .int .i64 z.age, .int .i64 z.fans, .bool z.follows, .bool z.done] FAC) = w1 := ⟨_, rfl⟩
  have k1 : Below w.heap.size w w1 := by rw [← hw1]; exact (Below.refl _ _).alloc (Nat.le_refl _) _
  have HBF : Hid (Blk w1 w.heap.size FAC (fzA z)) := Lib.hid (by rw [← hw1]; exact Blk.new _ _ _)
  obtain ⟨f0, f1, f2, f3, f4, f5, f6, f7, f8, f9, f10, f11⟩ := fz_all HBF.out
  have HK := Lib.hid k1
  clear k1
  have HSC : Hid (∀ W, Below w1.heap.size w1 W → W.cell? ⟨w.heap.size, 1, none⟩ = some (.string z.maker)) := Lib.hid (fun W hW => (HBF.out.under hW).cell 1)
  have HS0 : Hid (Below w1.heap.size w1 w1.drew) := Lib.hid (below_drew (Below.refl _ _))
  clear f0 f1 f2 f3 f4 f5 f6 f7 f8 f9 f10 f11
  go_enter Tryz.func16, Tryz.ntmps16
  go_upto_region 8 with fail
  clear hw1
  refine wp_plan (fun V => Below w1.heap.size w1 V) [(0, false), (1, false), (2, false), (3, false), (4, false), (5, false), (6, false)] (by kernel_rfl) (by kernel_rfl) HS0.out ?_
  simp only [planL, List.getElem?_cons_zero, List.getElem?_cons_succ]
  repeat (first | (refine plan_on _ (by rfl) (fun W hW => by (have q7 := HSC.out W hW; go_simp; try (first | with_reducible rfl | rw [if_neg (by omega)]))) ?_; simp only [Act.put, List.setIfInBounds_toArray, List.set_cons_zero, List.set_cons_succ]) | (refine plan_off (by rfl) ?_; simp only [Act.put, List.setIfInBounds_toArray, List.set_cons_zero, List.set_cons_succ]))
  refine plan_done ?_
  go_wp2_with fail
  go_ret
  exact ⟨rfl, HK.out.trans (HS0.out.mono HK.out.size)⟩
theorem leaf_other_f {s : ByteArray} {k n : Nat} {less : Bool} (e : s = followsW) (h : IsLeaf s (.num k less n)) : False := by
  have h2 : IsLeaf s .follows := ⟨trivial, e⟩
  have := h.one h2
  cases this
theorem leaf_other_d {s : ByteArray} {k n : Nat} {less : Bool} (e : s = doneW) (h : IsLeaf s (.num k less n)) : False := by
  have h2 : IsLeaf s .done := ⟨trivial, e⟩
  have := h.one h2
  cases this
/-- What the document does with a number's word. -/
def NumR (z : Fz) (k : Nat) (less : Bool) (n : Nat) (b : Bool) : Prop := holdsL (fzX z) (.num k less n) = b

set_option maxHeartbeats 4000000 in
set_option maxRecDepth 100000 in
theorem hatom_num0 (z : Fz) (less : Bool) (n : Nat) (hn : n ≤ 1099511627776) (s : ByteArray) (hs : IsLeaf s (.num 0 less n)) (hz : s.size ≤ 90000) (w : World) : Calls Tryz.prog 16 #[.string s, .agg #[.string z.name, .string z.maker, .string z.tags, .int .i64 z.stock, .int .i64 z.price, .int .i64 z.born, .bool z.listed, .int .i64 z.now, .int .i64 z.age, .int .i64 z.fans, .bool z.follows, .bool z.done]] w (ROf (holdsL (fzX z) (.num 0 less n)) w) := by
  have hp := num_parts hs
  have hw : (whatW 0).data.toList = [112, 114, 105, 99, 101] := rfl
  have hge : 5 ≤ s.size := by
    have h1 := congrArg List.length hp
    have h2 := (dig_size hn).1
    simp [hw] at h1
    omega
  have h4 : ∃ a b c d, s.extract 0 4 = ⟨#[a, b, c, d]⟩ ∧ (a ≠ 116 ∧ a ≠ 109) := by
    rw [hw] at hp
    cases less <;> exact ⟨_, _, _, _, head4 hp, by decide, by decide⟩
  have hf : s ≠ followsW := fun e => leaf_other_f e hs
  have hd : s ≠ doneW := fun e => leaf_other_d e hs
  have q1 : (s.toList == [102, 111, 108, 108, 111, 119, 115]) = false := lit_no hf
  have q2 : (s.toList == [100, 111, 110, 101]) = false := lit_no hd
  obtain ⟨a, b, c, d, h4, ha⟩ := h4
  have q3 : ((s.extract 0 4).toList == [116, 97, 103, 58]) = false := lit_no (fun e => by
    rw [h4] at e
    injection e with e
    injection e with e
    injection e with e _
    exact ha.1 e)
  have q4 : ((s.extract 0 4).toList == [109, 97, 107, 101]) = false := lit_no (fun e => by
    rw [h4] at e
    injection e with e
    injection e with e
    injection e with e _
    exact ha.2 e)
  have z4 : (4 : Int) ≤ (s.size : Int) := by omega
  obtain ⟨w1, hw1⟩ : ∃ w1, w.alloc (.cells #[.string z.name, .string z.maker, .string z.tags, .int .i64 z.stock, .int .i64 z.price, .int .i64 z.born, .bool z.listed, .int .i64 z.now, .int .i64 z.age, .int .i64 z.fans, .bool z.follows, .bool z.done] FAC) = w1 := ⟨_, rfl⟩
  have k1 : Below w.heap.size w w1 := by rw [← hw1]; exact (Below.refl _ _).alloc (Nat.le_refl _) _
  have HBF : Hid (Blk w1 w.heap.size FAC (fzA z)) := Lib.hid (by rw [← hw1]; exact Blk.new _ _ _)
  obtain ⟨f0, f1, f2, f3, f4, f5, f6, f7, f8, f9, f10, f11⟩ := fz_all HBF.out
  have HK := Lib.hid k1
  clear k1
  have HSP := Lib.hid (split_any s w1 (by omega))
  have HPT := Lib.hid hp
  have HX : Hid (holdsL (fzX z) (.num 0 less n) = if less then decide (z.price < (n : Int)) else decide ((n : Int) < z.price)) := Lib.hid rfl
  obtain ⟨bb, hbb⟩ : ∃ bb, holdsL (fzX z) (.num 0 less n) = bb := ⟨_, rfl⟩
  have HBB : Hid ((if less then decide (z.price < (n : Int)) else decide ((n : Int) < z.price)) = bb) := Lib.hid (HX.out.symm.trans hbb)
  rw [hbb]
  clear hbb hp h4 ha hs hf hd HX hw
  go_enter Tryz.func16, Tryz.ntmps16
  go_wp2_with fail
  refine HSP.out.mono ?_
  rintro e w3 ⟨⟨l, r, g, rfl, hsp, hlz, hrz⟩, hb3⟩
  have HB3 := Lib.hid (HK.out.trans (hb3.mono HK.out.size))
  have HBF3 := Lib.hid (HBF.out.under hb3)
  obtain ⟨f0, f1, f2, f3, f4, f5, f6, f7, f8, f9, f10, f11⟩ := fz_all HBF3.out
  have HCUT : Hid (l = ⟨#[112, 114, 105, 99, 101]⟩ ∧ (g = if less then 60 else 62) ∧ r.data.toList = Lib.decDigits n) := Lib.hid (by
    have hc : (if less then 60 else 62 : UInt8) = 60 ∨ (if less then 60 else 62 : UInt8) = 62 := by cases less; exact Or.inr rfl; exact Or.inl rfl
    rcases hsp with ⟨_, rfl, _, hfree⟩ | ⟨h1, h2, h3⟩
    · have := hfree (if less then 60 else 62) (by rw [HPT.out]; simp)
      cases less
      · exact absurd rfl this.2
      · exact absurd rfl this.1
    · obtain ⟨e1, e2, e3⟩ := split_one HPT.out (what_free 0) hc h1 h2 h3
      exact ⟨ba_ext e1, e2, e3⟩)
  have r0 : l = ⟨#[112, 114, 105, 99, 101]⟩ := HCUT.out.1
  subst r0
  have HNUM := Lib.hid (rnum_any r w3 (by omega))
  have HNI : Hid (∀ i, NumIs r i → i = n) := Lib.hid (fun i hi => num_is hi HCUT.out.2.2 hn)
  have HG : Hid (g = if less then 60 else 62) := Lib.hid HCUT.out.2.1
  clear hsp HSP hb3
  cases less
  · have g1 : ((g.toNat : Int) == 60) = false := by rw [HG.out]; rfl
    rw [if_neg (by decide)] at HBB
    go_wp2_with fail
    refine HNUM.out.mono ?_
    rintro e w4 ⟨i, rfl, hi, rfl⟩
    obtain rfl := HNI.out i hi
    by_cases hv : (n : Int) < z.price
    · have HRB : Hid (bb = true) := Lib.hid (by rw [← HBB.out]; exact decide_eq_true hv)
      clear hi
      go_wp2_with fail
      go_ret
      exact ⟨ret_bool HRB.out.symm, HB3.out⟩
    · have HRB : Hid (bb = false) := Lib.hid (by rw [← HBB.out]; exact decide_eq_false hv)
      clear hi
      go_wp2_with fail
      go_ret
      exact ⟨ret_bool ((decide_eq_false (by omega)).trans HRB.out.symm), HB3.out⟩
  · have g1 : ((g.toNat : Int) == 60) = true := by rw [HG.out]; rfl
    rw [if_pos rfl] at HBB
    go_wp2_with fail
    refine HNUM.out.mono ?_
    rintro e w4 ⟨i, rfl, hi, rfl⟩
    obtain rfl := HNI.out i hi
    by_cases hv : z.price < (n : Int)
    · have HRB : Hid (bb = true) := Lib.hid (by rw [← HBB.out]; exact decide_eq_true hv)
      clear hi
      go_wp2_with fail
      go_ret
      exact ⟨ret_bool HRB.out.symm, HB3.out⟩
    · have HRB : Hid (bb = false) := Lib.hid (by rw [← HBB.out]; exact decide_eq_false hv)
      clear hi
      go_wp2_with fail
      go_ret
      exact ⟨ret_bool ((decide_eq_false (by omega)).trans HRB.out.symm), HB3.out⟩

set_option maxHeartbeats 4000000 in
set_option maxRecDepth 100000 in
theorem hatom_num1 (z : Fz) (less : Bool) (n : Nat) (hn : n ≤ 1099511627776) (s : ByteArray) (hs : IsLeaf s (.num 1 less n)) (hz : s.size ≤ 90000) (w : World) : Calls Tryz.prog 16 #[.string s, .agg #[.string z.name, .string z.maker, .string z.tags, .int .i64 z.stock, .int .i64 z.price, .int .i64 z.born, .bool z.listed, .int .i64 z.now, .int .i64 z.age, .int .i64 z.fans, .bool z.follows, .bool z.done]] w (ROf (holdsL (fzX z) (.num 1 less n)) w) := by
  have hp := num_parts hs
  have hw : (whatW 1).data.toList = [115, 116, 111, 99, 107] := rfl
  have hge : 5 ≤ s.size := by
    have h1 := congrArg List.length hp
    have h2 := (dig_size hn).1
    simp [hw] at h1
    omega
  have h4 : ∃ a b c d, s.extract 0 4 = ⟨#[a, b, c, d]⟩ ∧ (a ≠ 116 ∧ a ≠ 109) := by
    rw [hw] at hp
    cases less <;> exact ⟨_, _, _, _, head4 hp, by decide, by decide⟩
  have hf : s ≠ followsW := fun e => leaf_other_f e hs
  have hd : s ≠ doneW := fun e => leaf_other_d e hs
  have q1 : (s.toList == [102, 111, 108, 108, 111, 119, 115]) = false := lit_no hf
  have q2 : (s.toList == [100, 111, 110, 101]) = false := lit_no hd
  obtain ⟨a, b, c, d, h4, ha⟩ := h4
  have q3 : ((s.extract 0 4).toList == [116, 97, 103, 58]) = false := lit_no (fun e => by
    rw [h4] at e
    injection e with e
    injection e with e
    injection e with e _
    exact ha.1 e)
  have q4 : ((s.extract 0 4).toList == [109, 97, 107, 101]) = false := lit_no (fun e => by
    rw [h4] at e
    injection e with e
    injection e with e
    injection e with e _
    exact ha.2 e)
  have z4 : (4 : Int) ≤ (s.size : Int) := by omega
  obtain ⟨w1, hw1⟩ : ∃ w1, w.alloc (.cells #[.string z.name, .string z.maker, .string z.tags, .int .i64 z.stock, .int .i64 z.price, .int .i64 z.born, .bool z.listed, .int .i64 z.now, .int .i64 z.age, .int .i64 z.fans, .bool z.follows, .bool z.done] FAC) = w1 := ⟨_, rfl⟩
  have k1 : Below w.heap.size w w1 := by rw [← hw1]; exact (Below.refl _ _).alloc (Nat.le_refl _) _
  have HBF : Hid (Blk w1 w.heap.size FAC (fzA z)) := Lib.hid (by rw [← hw1]; exact Blk.new _ _ _)
  obtain ⟨f0, f1, f2, f3, f4, f5, f6, f7, f8, f9, f10, f11⟩ := fz_all HBF.out
  have HK := Lib.hid k1
  clear k1
  have HSP := Lib.hid (split_any s w1 (by omega))
  have HPT := Lib.hid hp
  have HX : Hid (holdsL (fzX z) (.num 1 less n) = if less then decide (z.stock < (n : Int)) else decide ((n : Int) < z.stock)) := Lib.hid rfl
  obtain ⟨bb, hbb⟩ : ∃ bb, holdsL (fzX z) (.num 1 less n) = bb := ⟨_, rfl⟩
  have HBB : Hid ((if less then decide (z.stock < (n : Int)) else decide ((n : Int) < z.stock)) = bb) := Lib.hid (HX.out.symm.trans hbb)
  rw [hbb]
  clear hbb hp h4 ha hs hf hd HX hw
  go_enter Tryz.func16, Tryz.ntmps16
  go_wp2_with fail
  refine HSP.out.mono ?_
  rintro e w3 ⟨⟨l, r, g, rfl, hsp, hlz, hrz⟩, hb3⟩
  have HB3 := Lib.hid (HK.out.trans (hb3.mono HK.out.size))
  have HBF3 := Lib.hid (HBF.out.under hb3)
  obtain ⟨f0, f1, f2, f3, f4, f5, f6, f7, f8, f9, f10, f11⟩ := fz_all HBF3.out
  have HCUT : Hid (l = ⟨#[115, 116, 111, 99, 107]⟩ ∧ (g = if less then 60 else 62) ∧ r.data.toList = Lib.decDigits n) := Lib.hid (by
    have hc : (if less then 60 else 62 : UInt8) = 60 ∨ (if less then 60 else 62 : UInt8) = 62 := by cases less; exact Or.inr rfl; exact Or.inl rfl
    rcases hsp with ⟨_, rfl, _, hfree⟩ | ⟨h1, h2, h3⟩
    · have := hfree (if less then 60 else 62) (by rw [HPT.out]; simp)
      cases less
      · exact absurd rfl this.2
      · exact absurd rfl this.1
    · obtain ⟨e1, e2, e3⟩ := split_one HPT.out (what_free 1) hc h1 h2 h3
      exact ⟨ba_ext e1, e2, e3⟩)
  have r0 : l = ⟨#[115, 116, 111, 99, 107]⟩ := HCUT.out.1
  subst r0
  have HNUM := Lib.hid (rnum_any r w3 (by omega))
  have HNI : Hid (∀ i, NumIs r i → i = n) := Lib.hid (fun i hi => num_is hi HCUT.out.2.2 hn)
  have HG : Hid (g = if less then 60 else 62) := Lib.hid HCUT.out.2.1
  clear hsp HSP hb3
  cases less
  · have g1 : ((g.toNat : Int) == 60) = false := by rw [HG.out]; rfl
    rw [if_neg (by decide)] at HBB
    go_wp2_with fail
    refine HNUM.out.mono ?_
    rintro e w4 ⟨i, rfl, hi, rfl⟩
    obtain rfl := HNI.out i hi
    by_cases hv : (n : Int) < z.stock
    · have HRB : Hid (bb = true) := Lib.hid (by rw [← HBB.out]; exact decide_eq_true hv)
      clear hi
      go_wp2_with fail
      go_ret
      exact ⟨ret_bool HRB.out.symm, HB3.out⟩
    · have HRB : Hid (bb = false) := Lib.hid (by rw [← HBB.out]; exact decide_eq_false hv)
      clear hi
      go_wp2_with fail
      go_ret
      exact ⟨ret_bool ((decide_eq_false (by omega)).trans HRB.out.symm), HB3.out⟩
  · have g1 : ((g.toNat : Int) == 60) = true := by rw [HG.out]; rfl
    rw [if_pos rfl] at HBB
    go_wp2_with fail
    refine HNUM.out.mono ?_
    rintro e w4 ⟨i, rfl, hi, rfl⟩
    obtain rfl := HNI.out i hi
    by_cases hv : z.stock < (n : Int)
    · have HRB : Hid (bb = true) := Lib.hid (by rw [← HBB.out]; exact decide_eq_true hv)
      clear hi
      go_wp2_with fail
      go_ret
      exact ⟨ret_bool HRB.out.symm, HB3.out⟩
    · have HRB : Hid (bb = false) := Lib.hid (by rw [← HBB.out]; exact decide_eq_false hv)
      clear hi
      go_wp2_with fail
      go_ret
      exact ⟨ret_bool ((decide_eq_false (by omega)).trans HRB.out.symm), HB3.out⟩

set_option maxHeartbeats 4000000 in
set_option maxRecDepth 100000 in
theorem hatom_num2 (z : Fz) (less : Bool) (n : Nat) (hn : n ≤ 1099511627776) (s : ByteArray) (hs : IsLeaf s (.num 2 less n)) (hz : s.size ≤ 90000) (w : World) : Calls Tryz.prog 16 #[.string s, .agg #[.string z.name, .string z.maker, .string z.tags, .int .i64 z.stock, .int .i64 z.price, .int .i64 z.born, .bool z.listed, .int .i64 z.now, .int .i64 z.age, .int .i64 z.fans, .bool z.follows, .bool z.done]] w (ROf (holdsL (fzX z) (.num 2 less n)) w) := by
  have hp := num_parts hs
  have hw : (whatW 2).data.toList = [97, 103, 101] := rfl
  have hge : 5 ≤ s.size := by
    have h1 := congrArg List.length hp
    have h2 := (dig_size hn).1
    simp [hw] at h1
    omega
  have h4 : ∃ a b c d, s.extract 0 4 = ⟨#[a, b, c, d]⟩ ∧ (a ≠ 116 ∧ a ≠ 109) := by
    rw [hw] at hp
    cases less <;> exact ⟨_, _, _, _, head4 hp, by decide, by decide⟩
  have hf : s ≠ followsW := fun e => leaf_other_f e hs
  have hd : s ≠ doneW := fun e => leaf_other_d e hs
  have q1 : (s.toList == [102, 111, 108, 108, 111, 119, 115]) = false := lit_no hf
  have q2 : (s.toList == [100, 111, 110, 101]) = false := lit_no hd
  obtain ⟨a, b, c, d, h4, ha⟩ := h4
  have q3 : ((s.extract 0 4).toList == [116, 97, 103, 58]) = false := lit_no (fun e => by
    rw [h4] at e
    injection e with e
    injection e with e
    injection e with e _
    exact ha.1 e)
  have q4 : ((s.extract 0 4).toList == [109, 97, 107, 101]) = false := lit_no (fun e => by
    rw [h4] at e
    injection e with e
    injection e with e
    injection e with e _
    exact ha.2 e)
  have z4 : (4 : Int) ≤ (s.size : Int) := by omega
  obtain ⟨w1, hw1⟩ : ∃ w1, w.alloc (.cells #[.string z.name, .string z.maker, .string z.tags, .int .i64 z.stock, .int .i64 z.price, .int .i64 z.born, .bool z.listed, .int .i64 z.now, .int .i64 z.age, .int .i64 z.fans, .bool z.follows, .bool z.done] FAC) = w1 := ⟨_, rfl⟩
  have k1 : Below w.heap.size w w1 := by rw [← hw1]; exact (Below.refl _ _).alloc (Nat.le_refl _) _
  have HBF : Hid (Blk w1 w.heap.size FAC (fzA z)) := Lib.hid (by rw [← hw1]; exact Blk.new _ _ _)
  obtain ⟨f0, f1, f2, f3, f4, f5, f6, f7, f8, f9, f10, f11⟩ := fz_all HBF.out
  have HK := Lib.hid k1
  clear k1
  have HSP := Lib.hid (split_any s w1 (by omega))
  have HPT := Lib.hid hp
  have HX : Hid (holdsL (fzX z) (.num 2 less n) = if less then decide (z.age < (n : Int)) else decide ((n : Int) < z.age)) := Lib.hid rfl
  obtain ⟨bb, hbb⟩ : ∃ bb, holdsL (fzX z) (.num 2 less n) = bb := ⟨_, rfl⟩
  have HBB : Hid ((if less then decide (z.age < (n : Int)) else decide ((n : Int) < z.age)) = bb) := Lib.hid (HX.out.symm.trans hbb)
  rw [hbb]
  clear hbb hp h4 ha hs hf hd HX hw
  go_enter Tryz.func16, Tryz.ntmps16
  go_wp2_with fail
  refine HSP.out.mono ?_
  rintro e w3 ⟨⟨l, r, g, rfl, hsp, hlz, hrz⟩, hb3⟩
  have HB3 := Lib.hid (HK.out.trans (hb3.mono HK.out.size))
  have HBF3 := Lib.hid (HBF.out.under hb3)
  obtain ⟨f0, f1, f2, f3, f4, f5, f6, f7, f8, f9, f10, f11⟩ := fz_all HBF3.out
  have HCUT : Hid (l = ⟨#[97, 103, 101]⟩ ∧ (g = if less then 60 else 62) ∧ r.data.toList = Lib.decDigits n) := Lib.hid (by
    have hc : (if less then 60 else 62 : UInt8) = 60 ∨ (if less then 60 else 62 : UInt8) = 62 := by cases less; exact Or.inr rfl; exact Or.inl rfl
    rcases hsp with ⟨_, rfl, _, hfree⟩ | ⟨h1, h2, h3⟩
    · have := hfree (if less then 60 else 62) (by rw [HPT.out]; simp)
      cases less
      · exact absurd rfl this.2
      · exact absurd rfl this.1
    · obtain ⟨e1, e2, e3⟩ := split_one HPT.out (what_free 2) hc h1 h2 h3
      exact ⟨ba_ext e1, e2, e3⟩)
  have r0 : l = ⟨#[97, 103, 101]⟩ := HCUT.out.1
  subst r0
  have HNUM := Lib.hid (rnum_any r w3 (by omega))
  have HNI : Hid (∀ i, NumIs r i → i = n) := Lib.hid (fun i hi => num_is hi HCUT.out.2.2 hn)
  have HG : Hid (g = if less then 60 else 62) := Lib.hid HCUT.out.2.1
  clear hsp HSP hb3
  cases less
  · have g1 : ((g.toNat : Int) == 60) = false := by rw [HG.out]; rfl
    rw [if_neg (by decide)] at HBB
    go_wp2_with fail
    refine HNUM.out.mono ?_
    rintro e w4 ⟨i, rfl, hi, rfl⟩
    obtain rfl := HNI.out i hi
    by_cases hv : (n : Int) < z.age
    · have HRB : Hid (bb = true) := Lib.hid (by rw [← HBB.out]; exact decide_eq_true hv)
      clear hi
      go_wp2_with fail
      go_ret
      exact ⟨ret_bool HRB.out.symm, HB3.out⟩
    · have HRB : Hid (bb = false) := Lib.hid (by rw [← HBB.out]; exact decide_eq_false hv)
      clear hi
      go_wp2_with fail
      go_ret
      exact ⟨ret_bool ((decide_eq_false (by omega)).trans HRB.out.symm), HB3.out⟩
  · have g1 : ((g.toNat : Int) == 60) = true := by rw [HG.out]; rfl
    rw [if_pos rfl] at HBB
    go_wp2_with fail
    refine HNUM.out.mono ?_
    rintro e w4 ⟨i, rfl, hi, rfl⟩
    obtain rfl := HNI.out i hi
    by_cases hv : z.age < (n : Int)
    · have HRB : Hid (bb = true) := Lib.hid (by rw [← HBB.out]; exact decide_eq_true hv)
      clear hi
      go_wp2_with fail
      go_ret
      exact ⟨ret_bool HRB.out.symm, HB3.out⟩
    · have HRB : Hid (bb = false) := Lib.hid (by rw [← HBB.out]; exact decide_eq_false hv)
      clear hi
      go_wp2_with fail
      go_ret
      exact ⟨ret_bool ((decide_eq_false (by omega)).trans HRB.out.symm), HB3.out⟩

set_option maxHeartbeats 4000000 in
set_option maxRecDepth 100000 in
theorem hatom_num3 (z : Fz) (less : Bool) (n : Nat) (hn : n ≤ 1099511627776) (s : ByteArray) (hs : IsLeaf s (.num 3 less n)) (hz : s.size ≤ 90000) (w : World) : Calls Tryz.prog 16 #[.string s, .agg #[.string z.name, .string z.maker, .string z.tags, .int .i64 z.stock, .int .i64 z.price, .int .i64 z.born, .bool z.listed, .int .i64 z.now, .int .i64 z.age, .int .i64 z.fans, .bool z.follows, .bool z.done]] w (ROf (holdsL (fzX z) (.num 3 less n)) w) := by
  have hp := num_parts hs
  have hw : (whatW 3).data.toList = [102, 97, 110, 115] := rfl
  have hge : 5 ≤ s.size := by
    have h1 := congrArg List.length hp
    have h2 := (dig_size hn).1
    simp [hw] at h1
    omega
  have h4 : ∃ a b c d, s.extract 0 4 = ⟨#[a, b, c, d]⟩ ∧ (a ≠ 116 ∧ a ≠ 109) := by
    rw [hw] at hp
    cases less <;> exact ⟨_, _, _, _, head4 hp, by decide, by decide⟩
  have hf : s ≠ followsW := fun e => leaf_other_f e hs
  have hd : s ≠ doneW := fun e => leaf_other_d e hs
  have q1 : (s.toList == [102, 111, 108, 108, 111, 119, 115]) = false := lit_no hf
  have q2 : (s.toList == [100, 111, 110, 101]) = false := lit_no hd
  obtain ⟨a, b, c, d, h4, ha⟩ := h4
  have q3 : ((s.extract 0 4).toList == [116, 97, 103, 58]) = false := lit_no (fun e => by
    rw [h4] at e
    injection e with e
    injection e with e
    injection e with e _
    exact ha.1 e)
  have q4 : ((s.extract 0 4).toList == [109, 97, 107, 101]) = false := lit_no (fun e => by
    rw [h4] at e
    injection e with e
    injection e with e
    injection e with e _
    exact ha.2 e)
  have z4 : (4 : Int) ≤ (s.size : Int) := by omega
  obtain ⟨w1, hw1⟩ : ∃ w1, w.alloc (.cells #[.string z.name, .string z.maker, .string z.tags, .int .i64 z.stock, .int .i64 z.price, .int .i64 z.born, .bool z.listed, .int .i64 z.now, .int .i64 z.age, .int .i64 z.fans, .bool z.follows, .bool z.done] FAC) = w1 := ⟨_, rfl⟩
  have k1 : Below w.heap.size w w1 := by rw [← hw1]; exact (Below.refl _ _).alloc (Nat.le_refl _) _
  have HBF : Hid (Blk w1 w.heap.size FAC (fzA z)) := Lib.hid (by rw [← hw1]; exact Blk.new _ _ _)
  obtain ⟨f0, f1, f2, f3, f4, f5, f6, f7, f8, f9, f10, f11⟩ := fz_all HBF.out
  have HK := Lib.hid k1
  clear k1
  have HSP := Lib.hid (split_any s w1 (by omega))
  have HPT := Lib.hid hp
  have HX : Hid (holdsL (fzX z) (.num 3 less n) = if less then decide (z.fans < (n : Int)) else decide ((n : Int) < z.fans)) := Lib.hid rfl
  obtain ⟨bb, hbb⟩ : ∃ bb, holdsL (fzX z) (.num 3 less n) = bb := ⟨_, rfl⟩
  have HBB : Hid ((if less then decide (z.fans < (n : Int)) else decide ((n : Int) < z.fans)) = bb) := Lib.hid (HX.out.symm.trans hbb)
  rw [hbb]
  clear hbb hp h4 ha hs hf hd HX hw
  go_enter Tryz.func16, Tryz.ntmps16
  go_wp2_with fail
  refine HSP.out.mono ?_
  rintro e w3 ⟨⟨l, r, g, rfl, hsp, hlz, hrz⟩, hb3⟩
  have HB3 := Lib.hid (HK.out.trans (hb3.mono HK.out.size))
  have HBF3 := Lib.hid (HBF.out.under hb3)
  obtain ⟨f0, f1, f2, f3, f4, f5, f6, f7, f8, f9, f10, f11⟩ := fz_all HBF3.out
  have HCUT : Hid (l = ⟨#[102, 97, 110, 115]⟩ ∧ (g = if less then 60 else 62) ∧ r.data.toList = Lib.decDigits n) := Lib.hid (by
    have hc : (if less then 60 else 62 : UInt8) = 60 ∨ (if less then 60 else 62 : UInt8) = 62 := by cases less; exact Or.inr rfl; exact Or.inl rfl
    rcases hsp with ⟨_, rfl, _, hfree⟩ | ⟨h1, h2, h3⟩
    · have := hfree (if less then 60 else 62) (by rw [HPT.out]; simp)
      cases less
      · exact absurd rfl this.2
      · exact absurd rfl this.1
    · obtain ⟨e1, e2, e3⟩ := split_one HPT.out (what_free 3) hc h1 h2 h3
      exact ⟨ba_ext e1, e2, e3⟩)
  have r0 : l = ⟨#[102, 97, 110, 115]⟩ := HCUT.out.1
  subst r0
  have HNUM := Lib.hid (rnum_any r w3 (by omega))
  have HNI : Hid (∀ i, NumIs r i → i = n) := Lib.hid (fun i hi => num_is hi HCUT.out.2.2 hn)
  have HG : Hid (g = if less then 60 else 62) := Lib.hid HCUT.out.2.1
  clear hsp HSP hb3
  cases less
  · have g1 : ((g.toNat : Int) == 60) = false := by rw [HG.out]; rfl
    rw [if_neg (by decide)] at HBB
    go_wp2_with fail
    refine HNUM.out.mono ?_
    rintro e w4 ⟨i, rfl, hi, rfl⟩
    obtain rfl := HNI.out i hi
    by_cases hv : (n : Int) < z.fans
    · have HRB : Hid (bb = true) := Lib.hid (by rw [← HBB.out]; exact decide_eq_true hv)
      clear hi
      go_wp2_with fail
      go_ret
      exact ⟨ret_bool HRB.out.symm, HB3.out⟩
    · have HRB : Hid (bb = false) := Lib.hid (by rw [← HBB.out]; exact decide_eq_false hv)
      clear hi
      go_wp2_with fail
      go_ret
      exact ⟨ret_bool ((decide_eq_false (by omega)).trans HRB.out.symm), HB3.out⟩
  · have g1 : ((g.toNat : Int) == 60) = true := by rw [HG.out]; rfl
    rw [if_pos rfl] at HBB
    go_wp2_with fail
    refine HNUM.out.mono ?_
    rintro e w4 ⟨i, rfl, hi, rfl⟩
    obtain rfl := HNI.out i hi
    by_cases hv : z.fans < (n : Int)
    · have HRB : Hid (bb = true) := Lib.hid (by rw [← HBB.out]; exact decide_eq_true hv)
      clear hi
      go_wp2_with fail
      go_ret
      exact ⟨ret_bool HRB.out.symm, HB3.out⟩
    · have HRB : Hid (bb = false) := Lib.hid (by rw [← HBB.out]; exact decide_eq_false hv)
      clear hi
      go_wp2_with fail
      go_ret
      exact ⟨ret_bool ((decide_eq_false (by omega)).trans HRB.out.symm), HB3.out⟩
/-- The document's atom, of whatever leaf. -/
theorem datom_any (z : Fz) (hz : z.tags.size ≤ 900000) (a : Leaf) (ha : LeafOk a) (hs : (leafT a).size ≤ 90000) (w : World) : Calls Tryz.prog 16 #[.string (leafT a), .agg #[.string z.name, .string z.maker, .string z.tags, .int .i64 z.stock, .int .i64 z.price, .int .i64 z.born, .bool z.listed, .int .i64 z.now, .int .i64 z.age, .int .i64 z.fans, .bool z.follows, .bool z.done]] w (ROf (holdsL (fzX z) a) w) := by
  cases a with
  | follows => exact hatom_follows z w
  | done => exact hatom_done z w
  | tag x => exact hatom_tag z hz _ x (fun e => by have h1 := name_pos ha; rw [e] at h1; exact absurd h1 (by decide)) (by simp [leafT, tagW, colonW]) w
  | maker x => exact hatom_maker z _ x (by simp [leafT, makerW, colonW]) w
  | num k less n =>
    rcases (show k = 0 ∨ k = 1 ∨ k = 2 ∨ k = 3 by have := ha.1; omega) with rfl | rfl | rfl | rfl
    · exact hatom_num0 z less n ha.2 _ ⟨ha, rfl⟩ hs w
    · exact hatom_num1 z less n ha.2 _ ⟨ha, rfl⟩ hs w
    · exact hatom_num2 z less n ha.2 _ ⟨ha, rfl⟩ hs w
    · exact hatom_num3 z less n ha.2 _ ⟨ha, rfl⟩ hs w
end Go.Proofs.YtpgbgeofhcpocaaGreatDoor
