/- The document of rules: Holds. -/
import Derived.Test.YtpgbgeofhcpocaaGreatDoorHdA
namespace Go.Proofs.YtpgbgeofhcpocaaGreatDoor
open Go.RowKit Go.Maps Go.Shelf
set_option linter.unusedVariables false

/-- A node holds, by the document. -/
def HoldsD (z : Fz) (n : Nd) : Prop := ∀ (B : Nat) (v : DV) (w : World), DNd w B n v → (ownN n 0).length ≤ 90000 → Calls Tryz.prog 9 #[.agg #[.int .i64 v.k, .slice v.A v.m v.c, .string v.s], .agg (fzA z)] w (ROf (holdsN (fzX z) n) w)

set_option maxHeartbeats 4000000 in
set_option maxRecDepth 100000 in
theorem hold_none (z : Fz) (w : World) : Calls Tryz.prog 9 #[.agg #[.int .i64 0, .slice none 0 0, .string ⟨#[]⟩], .agg #[.string z.name, .string z.maker, .string z.tags, .int .i64 z.stock, .int .i64 z.price, .int .i64 z.born, .bool z.listed, .int .i64 z.now, .int .i64 z.age, .int .i64 z.fans, .bool z.follows, .bool z.done]] w (ROf true w) := by
  obtain ⟨w1, hw1⟩ : ∃ w1, w.alloc (.cells #[.int .i64 0, .slice none 0 0, .string ⟨#[]⟩] NOA) = w1 := ⟨_, rfl⟩
  obtain ⟨w2, hw2⟩ : ∃ w2, w1.alloc (.cells #[.string z.name, .string z.maker, .string z.tags, .int .i64 z.stock, .int .i64 z.price, .int .i64 z.born, .bool z.listed, .int .i64 z.now, .int .i64 z.age, .int .i64 z.fans, .bool z.follows, .bool z.done] FAC) = w2 := ⟨_, rfl⟩
  have z1 : w1.heap.size = w.heap.size + 1 := by rw [← hw1]; simp
  have k1 : Below w.heap.size w w1 := by rw [← hw1]; exact (Below.refl _ _).alloc (Nat.le_refl _) _
  have k2 : Below w1.heap.size w1 w2 := by rw [← hw2]; exact (Below.refl _ _).alloc (Nat.le_refl _) _
  have HK2 : Hid (Below w.heap.size w w2) := Lib.hid (k1.trans (k2.mono (by omega)))
  have B1 : Blk w1 w.heap.size NOA #[.int .i64 0, .slice none 0 0, .string ⟨#[]⟩] := by rw [← hw1]; exact Blk.new _ _ _
  have B2 : Blk w2 w.heap.size NOA #[.int .i64 0, .slice none 0 0, .string ⟨#[]⟩] := B1.under k2
  have HB1 := Lib.hid B2
  have HBF : Hid (Blk w2 (w.heap.size + 1) FAC (fzA z)) := Lib.hid (by
    have : Blk w2 w1.heap.size FAC (fzA z) := by rw [← hw2]; exact Blk.new _ _ _
    rwa [z1] at this)
  obtain ⟨c0, c1, c2, _, _, _⟩ := B2.at3
  obtain ⟨f0, f1, f2, f3, f4, f5, f6, f7, f8, f9, f10, f11⟩ := fz_all HBF.out
  clear B1 B2 k1 k2
  go_enter Tryz.func9, Tryz.ntmps9
  go_wp2_with fail
  go_ret
  exact ⟨rfl, HK2.out⟩
set_option maxHeartbeats 4000000 in
set_option maxRecDepth 100000 in
theorem hold_atom (z : Fz) (hz : z.tags.size ≤ 900000) (a : Leaf) (ha : LeafOk a) (x : ByteArray) (hx : leafT a = x) (hs : x.size ≤ 90000) (w : World) : Calls Tryz.prog 9 #[.agg #[.int .i64 4, .slice none 0 0, .string x], .agg #[.string z.name, .string z.maker, .string z.tags, .int .i64 z.stock, .int .i64 z.price, .int .i64 z.born, .bool z.listed, .int .i64 z.now, .int .i64 z.age, .int .i64 z.fans, .bool z.follows, .bool z.done]] w (ROf (holdsL (fzX z) a) w) := by
  obtain ⟨w1, hw1⟩ : ∃ w1, w.alloc (.cells #[.int .i64 4, .slice none 0 0, .string x] NOA) = w1 := ⟨_, rfl⟩
  obtain ⟨w2, hw2⟩ : ∃ w2, w1.alloc (.cells #[.string z.name, .string z.maker, .string z.tags, .int .i64 z.stock, .int .i64 z.price, .int .i64 z.born, .bool z.listed, .int .i64 z.now, .int .i64 z.age, .int .i64 z.fans, .bool z.follows, .bool z.done] FAC) = w2 := ⟨_, rfl⟩
  have z1 : w1.heap.size = w.heap.size + 1 := by rw [← hw1]; simp
  have k1 : Below w.heap.size w w1 := by rw [← hw1]; exact (Below.refl _ _).alloc (Nat.le_refl _) _
  have k2 : Below w1.heap.size w1 w2 := by rw [← hw2]; exact (Below.refl _ _).alloc (Nat.le_refl _) _
  have HK2 : Hid (Below w.heap.size w w2) := Lib.hid (k1.trans (k2.mono (by omega)))
  have B1 : Blk w1 w.heap.size NOA #[.int .i64 4, .slice none 0 0, .string x] := by rw [← hw1]; exact Blk.new _ _ _
  have B2 : Blk w2 w.heap.size NOA #[.int .i64 4, .slice none 0 0, .string x] := B1.under k2
  have HB1 := Lib.hid B2
  have HBF : Hid (Blk w2 (w.heap.size + 1) FAC (fzA z)) := Lib.hid (by
    have : Blk w2 w1.heap.size FAC (fzA z) := by rw [← hw2]; exact Blk.new _ _ _
    rwa [z1] at this)
  obtain ⟨c0, c1, c2, _, _, _⟩ := B2.at3
  obtain ⟨f0, f1, f2, f3, f4, f5, f6, f7, f8, f9, f10, f11⟩ := fz_all HBF.out
  clear B1 B2 k1 k2
  have HC : Hid (Calls Tryz.prog 16 #[.string x, .agg #[.string z.name, .string z.maker, .string z.tags, .int .i64 z.stock, .int .i64 z.price, .int .i64 z.born, .bool z.listed, .int .i64 z.now, .int .i64 z.age, .int .i64 z.fans, .bool z.follows, .bool z.done]] w2 (ROf (holdsL (fzX z) a) w2)) := Lib.hid (by
    have := datom_any z hz a ha (by rw [hx]; exact hs) w2
    rwa [hx] at this)
  obtain ⟨b, hb⟩ : ∃ b, holdsL (fzX z) a = b := ⟨_, rfl⟩
  rw [hb] at HC ⊢
  clear hb hx
  go_enter Tryz.func9, Tryz.ntmps9
  go_wp2_with fail
  refine HC.out.mono ?_
  rintro e w3 ⟨rfl, hb⟩
  have HB3 := Lib.hid (HK2.out.trans (hb.mono HK2.out.size))
  clear hb HC hw1 hw2 c0 c1 c2 f0 f1 f2 f3 f4 f5 f6 f7 f8 f9 f10 f11
  go_wp2_with fail
  go_ret
  exact ⟨rfl, HB3.out⟩
set_option maxHeartbeats 4000000 in
set_option maxRecDepth 100000 in
theorem hold_no (z : Fz) (n : Nd) (hT : HoldsD z n) (B : Nat) (A : Option Addr) (c : Nat) (v : DV) (w : World) (hr : RowD w B A 1 c [v]) (hd : DNd w B n v) (hsz : (ownN n 0).length ≤ 90000) : Calls Tryz.prog 9 #[.agg #[.int .i64 3, .slice A 1 c, .string ⟨#[]⟩], .agg #[.string z.name, .string z.maker, .string z.tags, .int .i64 z.stock, .int .i64 z.price, .int .i64 z.born, .bool z.listed, .int .i64 z.now, .int .i64 z.age, .int .i64 z.fans, .bool z.follows, .bool z.done]] w (ROf (holdsN (fzX z) (.no n)) w) := by
  have HH : Hid (holdsN (fzX z) (.no n) = !holdsN (fzX z) n) := Lib.hid (by rw [holdsN])
  rw [HH.out]
  obtain ⟨w1, hw1⟩ : ∃ w1, w.alloc (.cells #[.int .i64 3, .slice A 1 c, .string ⟨#[]⟩] NOA) = w1 := ⟨_, rfl⟩
  obtain ⟨w2, hw2⟩ : ∃ w2, w1.alloc (.cells #[.string z.name, .string z.maker, .string z.tags, .int .i64 z.stock, .int .i64 z.price, .int .i64 z.born, .bool z.listed, .int .i64 z.now, .int .i64 z.age, .int .i64 z.fans, .bool z.follows, .bool z.done] FAC) = w2 := ⟨_, rfl⟩
  have z1 : w1.heap.size = w.heap.size + 1 := by rw [← hw1]; simp
  have k1 : Below w.heap.size w w1 := by rw [← hw1]; exact (Below.refl _ _).alloc (Nat.le_refl _) _
  have k2 : Below w1.heap.size w1 w2 := by rw [← hw2]; exact (Below.refl _ _).alloc (Nat.le_refl _) _
  have HK2 : Hid (Below w.heap.size w w2) := Lib.hid (k1.trans (k2.mono (by omega)))
  have B1 : Blk w1 w.heap.size NOA #[.int .i64 3, .slice A 1 c, .string ⟨#[]⟩] := by rw [← hw1]; exact Blk.new _ _ _
  have B2 : Blk w2 w.heap.size NOA #[.int .i64 3, .slice A 1 c, .string ⟨#[]⟩] := B1.under k2
  have HB1 := Lib.hid B2
  have HBF : Hid (Blk w2 (w.heap.size + 1) FAC (fzA z)) := Lib.hid (by
    have : Blk w2 w1.heap.size FAC (fzA z) := by rw [← hw2]; exact Blk.new _ _ _
    rwa [z1] at this)
  obtain ⟨c0, c1, c2, _, _, _⟩ := B2.at3
  obtain ⟨f0, f1, f2, f3, f4, f5, f6, f7, f8, f9, f10, f11⟩ := fz_all HBF.out
  clear B1 B2 k1 k2
  have hr1 : RowD w2 B A 1 c [v] := hr.keep HK2.out.size (fun i hi _ => HK2.out.block i hi)
  obtain ⟨g, o, rfl, hg, hc⟩ := hr1.get (i := 0) (x := v) rfl
  have HC : Hid (∀ W, Below w2.heap.size w2 W → Calls Tryz.prog 9 #[.agg #[.int .i64 v.k, .slice v.A v.m v.c, .string v.s], .agg #[.string z.name, .string z.maker, .string z.tags, .int .i64 z.stock, .int .i64 z.price, .int .i64 z.born, .bool z.listed, .int .i64 z.now, .int .i64 z.age, .int .i64 z.fans, .bool z.follows, .bool z.done]] W (ROf (holdsN (fzX z) n) W)) := Lib.hid (fun W hW => hT B v W ((hd.under HK2.out).under hW) hsz)
  have HCE : Hid (∀ W, Below w2.heap.size w2 W → W.cell? ⟨w.heap.size, 1, none⟩ = some (.slice (some ⟨g, o, none⟩) 1 c) ∧ W.cell? ⟨g, o, none⟩ = some (.int .i64 v.k) ∧ W.cell? ⟨g, o + 1, none⟩ = some (.slice v.A v.m v.c) ∧ W.cell? ⟨g, o + 2, none⟩ = some (.string v.s)) := Lib.hid (fun W hW => by
    have kc : ∀ j, W.cell? ⟨g, o + (0 * 3 + j), none⟩ = w2.cell? ⟨g, o + (0 * 3 + j), none⟩ := fun j => hW.cell hg
    exact ⟨(HB1.out.under hW).cell 1, by have := (kc 0).trans (hc 0 _ rfl); simpa using this, by have := (kc 1).trans (hc 1 _ rfl); simpa using this, by have := (kc 2).trans (hc 2 _ rfl); simpa using this⟩)
  have HSF : Hid (∀ W, Below w2.heap.size w2 W → Blk W (w.heap.size + 1) FAC (fzA z)) := Lib.hid (fun W hW => HBF.out.under hW)
  have HS0 : Hid (Below w2.heap.size w2 w2.drew) := Lib.hid (below_drew (Below.refl _ _))
  obtain ⟨b, hb⟩ : ∃ b, holdsN (fzX z) n = b := ⟨_, rfl⟩
  rw [hb] at HC ⊢
  clear hr hd hr1 hc hT hb
  go_enter Tryz.func9, Tryz.ntmps9
  go_upto_region 19 with fail
  clear hw1 hw2 c0 c1 c2 f0 f1 f2 f3 f4 f5 f6 f7 f8 f9 f10 f11
  refine wp_plan (fun V => Below w2.heap.size w2 V) [(0, false), (1, false), (2, false), (3, false), (4, false), (5, true), (6, false), (7, false)] (by kernel_rfl) (by kernel_rfl) HS0.out ?_
  simp only [planL, List.getElem?_cons_zero, List.getElem?_cons_succ]
  repeat (first | (refine plan_on _ (by rfl) (fun W hW => by (obtain ⟨q1, q2, q3, q4⟩ := HCE.out W hW; obtain ⟨d0, d1, d2, d3, d4, d5, d6, d7, d8, d9, d10, d11⟩ := fz_all (HSF.out W hW); go_simp; try (first | with_reducible rfl | rw [if_neg (by omega)]))) ?_; simp only [Act.put, List.setIfInBounds_toArray, List.set_cons_zero, List.set_cons_succ]) | (refine plan_off (by rfl) ?_; simp only [Act.put, List.setIfInBounds_toArray, List.set_cons_zero, List.set_cons_succ]))
  refine plan_turn ?_
  have HCC := Lib.hid (HC.out _ HS0.out)
  go_wp2_with fail
  refine HCC.out.mono ?_
  rintro e w3 ⟨rfl, hb3⟩
  have HB3 : Hid (Below w2.heap.size w2 w3) := Lib.hid (HS0.out.trans (hb3.mono HS0.out.size))
  clear hb3 HCC
  go_wp2_with fail
  refine ⟨HB3.out, ?_⟩
  repeat (first | (refine plan_on _ (by rfl) (fun W hW => by (obtain ⟨q1, q2, q3, q4⟩ := HCE.out W hW; go_simp; try (first | with_reducible rfl | rw [if_neg (by omega)]))) ?_; simp only [Act.put, List.setIfInBounds_toArray, List.set_cons_zero, List.set_cons_succ]) | (refine plan_off (by rfl) ?_; simp only [Act.put, List.setIfInBounds_toArray, List.set_cons_zero, List.set_cons_succ]))
  refine plan_done ?_
  go_wp2_with fail
  go_ret
  exact ⟨rfl, HK2.out.trans (HB3.out.mono HK2.out.size)⟩

theorem someN_a2 (f : Fx) : ∀ l : List Nd, someN f l = l.any (holdsN f)
  | [] => by rw [someN]; rfl
  | n :: l => by rw [someN, someN_a2 f l, List.any_cons]
theorem someNot_a2 (f : Fx) : ∀ l : List Nd, someNot f l = !l.all (holdsN f)
  | [] => by rw [someNot]; rfl
  | n :: l => by rw [someNot, someNot_a2 f l, List.all_cons, Bool.not_and]
theorem row_or2 (f : Fx) (l : List Nd) : holdsN f (.row 0 l) = l.any (holdsN f) := by rw [holdsN, if_pos rfl, someN_a2]
theorem row_and2 (f : Fx) (l : List Nd) : holdsN f (.row 1 l) = l.all (holdsN f) := by rw [holdsN, if_neg (by omega), someNot_a2, Bool.not_not]

set_option maxHeartbeats 8000000 in
set_option maxRecDepth 100000 in
theorem hold_row0 (z : Fz) (l : List Nd) (hT : ∀ n ∈ l, HoldsD z n) (B : Nat) (A : Option Addr) (m c : Nat) (xs : List DV) (w : World) (hr : RowD w B A m c xs) (hlm : l.length = m) (hnd : ∀ (i : Nat) n v, l[i]? = some n → xs[i]? = some v → DNd w B n v) (hsz : (ownL l 0).length ≤ 90000) (hm : m ≤ 1000000) : Calls Tryz.prog 9 #[.agg #[.int .i64 1, .slice A m c, .string ⟨#[]⟩], .agg #[.string z.name, .string z.maker, .string z.tags, .int .i64 z.stock, .int .i64 z.price, .int .i64 z.born, .bool z.listed, .int .i64 z.now, .int .i64 z.age, .int .i64 z.fans, .bool z.follows, .bool z.done]] w (ROf (holdsN (fzX z) (.row 0 l)) w) := by
  have HHIT : Hid (∀ (i : Nat) n, l[i]? = some n → holdsN (fzX z) n = true → holdsN (fzX z) (.row 0 l) = true) := Lib.hid (fun i n hi hn => by
    rw [row_or2]
    exact List.any_eq_true.2 ⟨n, List.mem_of_getElem? hi, hn⟩)
  have HMISS : Hid ((∀ (i : Nat) n, i < m → l[i]? = some n → holdsN (fzX z) n = false) → holdsN (fzX z) (.row 0 l) = false) := Lib.hid (fun h => by
    rw [row_or2]
    exact List.any_eq_false.2 (fun n hn => by obtain ⟨i, hi⟩ := List.mem_iff_getElem?.1 hn; rw [h i n (by rw [← hlm]; exact (List.getElem?_eq_some_iff.1 hi).1) hi]; decide))
  obtain ⟨bR, hbR⟩ : ∃ b, holdsN (fzX z) (.row 0 l) = b := ⟨_, rfl⟩
  rw [hbR] at HHIT HMISS ⊢
  clear hbR
  have HT := Lib.hid hT
  have HND := Lib.hid hnd
  have HLM := Lib.hid hlm
  obtain ⟨w1, hw1⟩ : ∃ w1, w.alloc (.cells #[.int .i64 1, .slice A m c, .string ⟨#[]⟩] NOA) = w1 := ⟨_, rfl⟩
  obtain ⟨w2, hw2⟩ : ∃ w2, w1.alloc (.cells #[.string z.name, .string z.maker, .string z.tags, .int .i64 z.stock, .int .i64 z.price, .int .i64 z.born, .bool z.listed, .int .i64 z.now, .int .i64 z.age, .int .i64 z.fans, .bool z.follows, .bool z.done] FAC) = w2 := ⟨_, rfl⟩
  have z1 : w1.heap.size = w.heap.size + 1 := by rw [← hw1]; simp
  have k1 : Below w.heap.size w w1 := by rw [← hw1]; exact (Below.refl _ _).alloc (Nat.le_refl _) _
  have k2 : Below w1.heap.size w1 w2 := by rw [← hw2]; exact (Below.refl _ _).alloc (Nat.le_refl _) _
  have HK2 : Hid (Below w.heap.size w w2) := Lib.hid (k1.trans (k2.mono (by omega)))
  have B1 : Blk w1 w.heap.size NOA #[.int .i64 1, .slice A m c, .string ⟨#[]⟩] := by rw [← hw1]; exact Blk.new _ _ _
  have B2 : Blk w2 w.heap.size NOA #[.int .i64 1, .slice A m c, .string ⟨#[]⟩] := B1.under k2
  have HB1 := Lib.hid B2
  have HBF : Hid (Blk w2 (w.heap.size + 1) FAC (fzA z)) := Lib.hid (by
    have : Blk w2 w1.heap.size FAC (fzA z) := by rw [← hw2]; exact Blk.new _ _ _
    rwa [z1] at this)
  obtain ⟨c0, c1, c2, _, _, _⟩ := B2.at3
  obtain ⟨f0, f1, f2, f3, f4, f5, f6, f7, f8, f9, f10, f11⟩ := fz_all HBF.out
  clear B1 B2 k1 k2
  have HR1 := Lib.hid (hr.keep HK2.out.size (fun i hi _ => HK2.out.block i hi))
  have HXL := Lib.hid hr.len
  clear hT hnd hlm hr
  go_enter Tryz.func9, Tryz.ntmps9
  go_wp2_with fail
  clear hw1 hw2 c0 c1 c2 f0 f1 f2 f3 f4 f5 f6 f7 f8 f9 f10 f11
  go_loopw [5] (fun i7 wr => ∃ i : Nat, i ≤ m ∧ i7 = .int .i64 i ∧ Hid (∀ (j : Nat) n, j < i → l[j]? = some n → holdsN (fzX z) n = false) ∧ Hid (Below w2.heap.size w2 wr)) (fun i7 _ => m - (intOf i7).toNat)
  case atStart => exact ⟨0, Nat.zero_le _, rfl, Lib.hid (fun j n hj => by omega), Lib.hid (Below.refl _ _)⟩
  case round =>
    obtain ⟨i, him, rfl, hno, hbw⟩ := hrel
    have HBR : Hid (Blk wr w.heap.size NOA #[.int .i64 1, .slice A m c, .string ⟨#[]⟩]) := Lib.hid (HB1.out.under hbw.out)
    obtain ⟨d0, d1, d2, _, _, _⟩ := HBR.out.at3
    by_cases hi : i < m
    · have hi2 : (i : Int) < (m : Int) := by omega
      have hi0 : (0 : Int) ≤ (i : Int) := by omega
      obtain ⟨n, hn⟩ : ∃ n, l[i]? = some n := ⟨_, List.getElem?_eq_getElem (by rw [HLM.out]; exact hi)⟩
      obtain ⟨v, hv⟩ : ∃ v, xs[i]? = some v := ⟨_, List.getElem?_eq_getElem (by rw [HXL.out]; exact hi)⟩
      have hrr : RowD wr B A m c xs := HR1.out.keep hbw.out.size (fun j hj _ => hbw.out.block j hj)
      obtain ⟨g, o, hA, hg, hc⟩ := hrr.get hv
      subst hA
      have HCE : Hid (∀ W, Below wr.heap.size wr W → W.cell? ⟨w.heap.size, 1, none⟩ = some (.slice (some ⟨g, o, none⟩) m c) ∧ W.cell? ⟨g, o + i * 3, none⟩ = some (.int .i64 v.k) ∧ W.cell? ⟨g, o + i * 3 + 1, none⟩ = some (.slice v.A v.m v.c) ∧ W.cell? ⟨g, o + i * 3 + 2, none⟩ = some (.string v.s)) := Lib.hid (fun W hW => by
        have k := HBR.out.under hW
        have kc : ∀ j, W.cell? ⟨g, o + (i * 3 + j), none⟩ = wr.cell? ⟨g, o + (i * 3 + j), none⟩ := fun j => hW.cell hg
        exact ⟨k.cell 1, by have := (kc 0).trans (hc 0 _ rfl); simpa using this, by have := (kc 1).trans (hc 1 _ rfl); simpa [Nat.add_assoc] using this, by have := (kc 2).trans (hc 2 _ rfl); simpa [Nat.add_assoc] using this⟩)
      have HSF : Hid (∀ W, Below wr.heap.size wr W → Blk W (w.heap.size + 1) FAC (fzA z)) := Lib.hid (fun W hW => (HBF.out.under hbw.out).under hW)
      have HMEM : Hid (n ∈ l) := Lib.hid (List.mem_of_getElem? hn)
      have hnl : (ownN n (0 + 1)).length ≤ (ownL l 0).length := ownL_mem HMEM.out
      have hnm : (ownN n 0).length ≤ (ownN n (0 + 1)).length := ownN_mono n (by omega)
      have HC : Hid (Calls Tryz.prog 9 #[.agg #[.int .i64 v.k, .slice v.A v.m v.c, .string v.s], .agg #[.string z.name, .string z.maker, .string z.tags, .int .i64 z.stock, .int .i64 z.price, .int .i64 z.born, .bool z.listed, .int .i64 z.now, .int .i64 z.age, .int .i64 z.fans, .bool z.follows, .bool z.done]] wr.drew fun e w' => e = .returned (.bool (holdsN (fzX z) n)) ∧ Below wr.heap.size wr w') := Lib.hid (by
        have h1 : DNd wr.drew B n v := ((HND.out i n v hn hv).under HK2.out).under (below_drew hbw.out)
        have := HT.out n HMEM.out B v wr.drew h1 (by omega)
        exact this.mono fun e w' ⟨a, b⟩ => ⟨a, (below_drew (Below.refl _ _)).trans b⟩)
      have HHI := Lib.hid (HHIT.out i n hn)
      have HNX : Hid (holdsN (fzX z) n = false → ∀ (j : Nat) n, j < i + 1 → l[j]? = some n → holdsN (fzX z) n = false) := Lib.hid (fun h j n' hj hn' => by
        by_cases e : j = i
        · subst e; rw [hn] at hn'; injection hn' with hn'; rw [← hn']; exact h
        · exact hno.out j n' (by omega) hn')
      have HS0 : Hid (Below wr.heap.size wr wr.drew) := Lib.hid (below_drew (Below.refl _ _))
      obtain ⟨b, hb⟩ : ∃ b, holdsN (fzX z) n = b := ⟨_, rfl⟩
      rw [hb] at HC HHI HNX
      clear hn hv hrr hc hb hnl hnm
      cases b
      · have HNN := Lib.hid (HNX.out rfl)
        clear HHI HNX
        go_upto_region 8 with fail
        clear d0 d1 d2
        refine wp_plan (fun V => Below wr.heap.size wr V) [(0, false), (1, false), (2, false), (3, false), (4, false), (5, false), (6, true)] (by kernel_rfl) (by kernel_rfl) HS0.out ?_
        simp only [planL, List.getElem?_cons_zero, List.getElem?_cons_succ]
        repeat (first | (refine plan_on _ (by rfl) (fun W hW => by (obtain ⟨q1, q2, q3, q4⟩ := HCE.out W hW; obtain ⟨e0, e1, e2, e3, e4, e5, e6, e7, e8, e9, e10, e11⟩ := fz_all (HSF.out W hW); go_simp; try (first | with_reducible rfl | rw [if_neg (by omega)]))) ?_; simp only [Act.put, List.setIfInBounds_toArray, List.set_cons_zero, List.set_cons_succ]) | (refine plan_off (by rfl) ?_; simp only [Act.put, List.setIfInBounds_toArray, List.set_cons_zero, List.set_cons_succ]))
        refine plan_turn ?_
        go_wp2_with fail
        refine HC.out.mono ?_
        rintro e w3 ⟨rfl, hb3⟩
        have HB3 := Lib.hid hb3
        clear hb3 HC
        go_wp2_with fail
        refine ⟨HB3.out, ?_⟩
        repeat (first | (refine plan_on _ (by rfl) (fun W hW => by (obtain ⟨q1, q2, q3, q4⟩ := HCE.out W hW; go_simp; try (first | with_reducible rfl | rw [if_neg (by omega)]))) ?_; simp only [Act.put, List.setIfInBounds_toArray, List.set_cons_zero, List.set_cons_succ]) | (refine plan_off (by rfl) ?_; simp only [Act.put, List.setIfInBounds_toArray, List.set_cons_zero, List.set_cons_succ]))
        refine plan_done ?_
        go_wp2_with fail
        go_roundw
        case rel => exact ⟨i + 1, by omega, by go_num, HNN, Lib.hid (hbw.out.trans (HB3.out.mono hbw.out.size))⟩
        case measure => simp [intOf]; omega
      · have HRR := Lib.hid (HHI.out rfl)
        clear HHI HNX
        go_upto_region 8 with fail
        clear d0 d1 d2
        refine wp_plan (fun V => Below wr.heap.size wr V) [(0, false), (1, false), (2, false), (3, false), (4, false), (5, false), (6, true)] (by kernel_rfl) (by kernel_rfl) HS0.out ?_
        simp only [planL, List.getElem?_cons_zero, List.getElem?_cons_succ]
        repeat (first | (refine plan_on _ (by rfl) (fun W hW => by (obtain ⟨q1, q2, q3, q4⟩ := HCE.out W hW; obtain ⟨e0, e1, e2, e3, e4, e5, e6, e7, e8, e9, e10, e11⟩ := fz_all (HSF.out W hW); go_simp; try (first | with_reducible rfl | rw [if_neg (by omega)]))) ?_; simp only [Act.put, List.setIfInBounds_toArray, List.set_cons_zero, List.set_cons_succ]) | (refine plan_off (by rfl) ?_; simp only [Act.put, List.setIfInBounds_toArray, List.set_cons_zero, List.set_cons_succ]))
        refine plan_turn ?_
        go_wp2_with fail
        refine HC.out.mono ?_
        rintro e w3 ⟨rfl, hb3⟩
        have HB3 := Lib.hid hb3
        clear hb3 HC
        go_wp2_with fail
        refine ⟨HB3.out, ?_⟩
        repeat (first | (refine plan_on _ (by rfl) (fun W hW => by (obtain ⟨q1, q2, q3, q4⟩ := HCE.out W hW; go_simp; try (first | with_reducible rfl | rw [if_neg (by omega)]))) ?_; simp only [Act.put, List.setIfInBounds_toArray, List.set_cons_zero, List.set_cons_succ]) | (refine plan_off (by rfl) ?_; simp only [Act.put, List.setIfInBounds_toArray, List.set_cons_zero, List.set_cons_succ]))
        refine plan_done ?_
        go_wp2_with fail
        go_ret
        exact ⟨ret_bool HRR.out.symm, HK2.out.trans ((hbw.out.trans (HB3.out.mono hbw.out.size)).mono HK2.out.size)⟩

    · obtain rfl : i = m := by omega
      have hi2 : ¬ (i : Int) < (i : Int) := by omega
      have HF := Lib.hid (HMISS.out hno.out)
      clear HMISS HHIT
      go_wp2_with fail
      go_ret
      exact ⟨ret_bool HF.out.symm, HK2.out.trans (hbw.out.mono HK2.out.size)⟩

set_option maxHeartbeats 8000000 in
set_option maxRecDepth 100000 in
theorem hold_row1 (z : Fz) (l : List Nd) (hT : ∀ n ∈ l, HoldsD z n) (B : Nat) (A : Option Addr) (m c : Nat) (xs : List DV) (w : World) (hr : RowD w B A m c xs) (hlm : l.length = m) (hnd : ∀ (i : Nat) n v, l[i]? = some n → xs[i]? = some v → DNd w B n v) (hsz : (ownL l 1).length ≤ 90000) (hm : m ≤ 1000000) : Calls Tryz.prog 9 #[.agg #[.int .i64 2, .slice A m c, .string ⟨#[]⟩], .agg #[.string z.name, .string z.maker, .string z.tags, .int .i64 z.stock, .int .i64 z.price, .int .i64 z.born, .bool z.listed, .int .i64 z.now, .int .i64 z.age, .int .i64 z.fans, .bool z.follows, .bool z.done]] w (ROf (holdsN (fzX z) (.row 1 l)) w) := by
  have HHIT : Hid (∀ (i : Nat) n, l[i]? = some n → holdsN (fzX z) n = false → holdsN (fzX z) (.row 1 l) = false) := Lib.hid (fun i n hi hn => by
    rw [row_and2]
    exact List.all_eq_false.2 ⟨n, List.mem_of_getElem? hi, by rw [hn]; decide⟩)
  have HMISS : Hid ((∀ (i : Nat) n, i < m → l[i]? = some n → holdsN (fzX z) n = true) → holdsN (fzX z) (.row 1 l) = true) := Lib.hid (fun h => by
    rw [row_and2]
    exact List.all_eq_true.2 (fun n hn => by obtain ⟨i, hi⟩ := List.mem_iff_getElem?.1 hn; exact h i n (by rw [← hlm]; exact (List.getElem?_eq_some_iff.1 hi).1) hi))
  obtain ⟨bR, hbR⟩ : ∃ b, holdsN (fzX z) (.row 1 l) = b := ⟨_, rfl⟩
  rw [hbR] at HHIT HMISS ⊢
  clear hbR
  have HT := Lib.hid hT
  have HND := Lib.hid hnd
  have HLM := Lib.hid hlm
  obtain ⟨w1, hw1⟩ : ∃ w1, w.alloc (.cells #[.int .i64 2, .slice A m c, .string ⟨#[]⟩] NOA) = w1 := ⟨_, rfl⟩
  obtain ⟨w2, hw2⟩ : ∃ w2, w1.alloc (.cells #[.string z.name, .string z.maker, .string z.tags, .int .i64 z.stock, .int .i64 z.price, .int .i64 z.born, .bool z.listed, .int .i64 z.now, .int .i64 z.age, .int .i64 z.fans, .bool z.follows, .bool z.done] FAC) = w2 := ⟨_, rfl⟩
  have z1 : w1.heap.size = w.heap.size + 1 := by rw [← hw1]; simp
  have k1 : Below w.heap.size w w1 := by rw [← hw1]; exact (Below.refl _ _).alloc (Nat.le_refl _) _
  have k2 : Below w1.heap.size w1 w2 := by rw [← hw2]; exact (Below.refl _ _).alloc (Nat.le_refl _) _
  have HK2 : Hid (Below w.heap.size w w2) := Lib.hid (k1.trans (k2.mono (by omega)))
  have B1 : Blk w1 w.heap.size NOA #[.int .i64 2, .slice A m c, .string ⟨#[]⟩] := by rw [← hw1]; exact Blk.new _ _ _
  have B2 : Blk w2 w.heap.size NOA #[.int .i64 2, .slice A m c, .string ⟨#[]⟩] := B1.under k2
  have HB1 := Lib.hid B2
  have HBF : Hid (Blk w2 (w.heap.size + 1) FAC (fzA z)) := Lib.hid (by
    have : Blk w2 w1.heap.size FAC (fzA z) := by rw [← hw2]; exact Blk.new _ _ _
    rwa [z1] at this)
  obtain ⟨c0, c1, c2, _, _, _⟩ := B2.at3
  obtain ⟨f0, f1, f2, f3, f4, f5, f6, f7, f8, f9, f10, f11⟩ := fz_all HBF.out
  clear B1 B2 k1 k2
  have HR1 := Lib.hid (hr.keep HK2.out.size (fun i hi _ => HK2.out.block i hi))
  have HXL := Lib.hid hr.len
  clear hT hnd hlm hr
  go_enter Tryz.func9, Tryz.ntmps9
  go_wp2_with fail
  clear hw1 hw2 c0 c1 c2 f0 f1 f2 f3 f4 f5 f6 f7 f8 f9 f10 f11
  go_loopw [6] (fun i7 wr => ∃ i : Nat, i ≤ m ∧ i7 = .int .i64 i ∧ Hid (∀ (j : Nat) n, j < i → l[j]? = some n → holdsN (fzX z) n = true) ∧ Hid (Below w2.heap.size w2 wr)) (fun i7 _ => m - (intOf i7).toNat)
  case atStart => exact ⟨0, Nat.zero_le _, rfl, Lib.hid (fun j n hj => by omega), Lib.hid (Below.refl _ _)⟩
  case round =>
    obtain ⟨i, him, rfl, hno, hbw⟩ := hrel
    have HBR : Hid (Blk wr w.heap.size NOA #[.int .i64 2, .slice A m c, .string ⟨#[]⟩]) := Lib.hid (HB1.out.under hbw.out)
    obtain ⟨d0, d1, d2, _, _, _⟩ := HBR.out.at3
    by_cases hi : i < m
    · have hi2 : (i : Int) < (m : Int) := by omega
      have hi0 : (0 : Int) ≤ (i : Int) := by omega
      obtain ⟨n, hn⟩ : ∃ n, l[i]? = some n := ⟨_, List.getElem?_eq_getElem (by rw [HLM.out]; exact hi)⟩
      obtain ⟨v, hv⟩ : ∃ v, xs[i]? = some v := ⟨_, List.getElem?_eq_getElem (by rw [HXL.out]; exact hi)⟩
      have hrr : RowD wr B A m c xs := HR1.out.keep hbw.out.size (fun j hj _ => hbw.out.block j hj)
      obtain ⟨g, o, hA, hg, hc⟩ := hrr.get hv
      subst hA
      have HCE : Hid (∀ W, Below wr.heap.size wr W → W.cell? ⟨w.heap.size, 1, none⟩ = some (.slice (some ⟨g, o, none⟩) m c) ∧ W.cell? ⟨g, o + i * 3, none⟩ = some (.int .i64 v.k) ∧ W.cell? ⟨g, o + i * 3 + 1, none⟩ = some (.slice v.A v.m v.c) ∧ W.cell? ⟨g, o + i * 3 + 2, none⟩ = some (.string v.s)) := Lib.hid (fun W hW => by
        have k := HBR.out.under hW
        have kc : ∀ j, W.cell? ⟨g, o + (i * 3 + j), none⟩ = wr.cell? ⟨g, o + (i * 3 + j), none⟩ := fun j => hW.cell hg
        exact ⟨k.cell 1, by have := (kc 0).trans (hc 0 _ rfl); simpa using this, by have := (kc 1).trans (hc 1 _ rfl); simpa [Nat.add_assoc] using this, by have := (kc 2).trans (hc 2 _ rfl); simpa [Nat.add_assoc] using this⟩)
      have HSF : Hid (∀ W, Below wr.heap.size wr W → Blk W (w.heap.size + 1) FAC (fzA z)) := Lib.hid (fun W hW => (HBF.out.under hbw.out).under hW)
      have HMEM : Hid (n ∈ l) := Lib.hid (List.mem_of_getElem? hn)
      have hnl : (ownN n (1 + 1)).length ≤ (ownL l 1).length := ownL_mem HMEM.out
      have hnm : (ownN n 0).length ≤ (ownN n (1 + 1)).length := ownN_mono n (by omega)
      have HC : Hid (Calls Tryz.prog 9 #[.agg #[.int .i64 v.k, .slice v.A v.m v.c, .string v.s], .agg #[.string z.name, .string z.maker, .string z.tags, .int .i64 z.stock, .int .i64 z.price, .int .i64 z.born, .bool z.listed, .int .i64 z.now, .int .i64 z.age, .int .i64 z.fans, .bool z.follows, .bool z.done]] wr.drew fun e w' => e = .returned (.bool (holdsN (fzX z) n)) ∧ Below wr.heap.size wr w') := Lib.hid (by
        have h1 : DNd wr.drew B n v := ((HND.out i n v hn hv).under HK2.out).under (below_drew hbw.out)
        have := HT.out n HMEM.out B v wr.drew h1 (by omega)
        exact this.mono fun e w' ⟨a, b⟩ => ⟨a, (below_drew (Below.refl _ _)).trans b⟩)
      have HHI := Lib.hid (HHIT.out i n hn)
      have HNX : Hid (holdsN (fzX z) n = true → ∀ (j : Nat) n, j < i + 1 → l[j]? = some n → holdsN (fzX z) n = true) := Lib.hid (fun h j n' hj hn' => by
        by_cases e : j = i
        · subst e; rw [hn] at hn'; injection hn' with hn'; rw [← hn']; exact h
        · exact hno.out j n' (by omega) hn')
      have HS0 : Hid (Below wr.heap.size wr wr.drew) := Lib.hid (below_drew (Below.refl _ _))
      obtain ⟨b, hb⟩ : ∃ b, holdsN (fzX z) n = b := ⟨_, rfl⟩
      rw [hb] at HC HHI HNX
      clear hn hv hrr hc hb hnl hnm
      cases b
      · have HRR := Lib.hid (HHI.out rfl)
        clear HHI HNX
        go_upto_region 15 with fail
        clear d0 d1 d2
        refine wp_plan (fun V => Below wr.heap.size wr V) [(0, false), (1, false), (2, false), (3, false), (4, false), (5, false), (6, true), (7, false)] (by kernel_rfl) (by kernel_rfl) HS0.out ?_
        simp only [planL, List.getElem?_cons_zero, List.getElem?_cons_succ]
        repeat (first | (refine plan_on _ (by rfl) (fun W hW => by (obtain ⟨q1, q2, q3, q4⟩ := HCE.out W hW; obtain ⟨e0, e1, e2, e3, e4, e5, e6, e7, e8, e9, e10, e11⟩ := fz_all (HSF.out W hW); go_simp; try (first | with_reducible rfl | rw [if_neg (by omega)]))) ?_; simp only [Act.put, List.setIfInBounds_toArray, List.set_cons_zero, List.set_cons_succ]) | (refine plan_off (by rfl) ?_; simp only [Act.put, List.setIfInBounds_toArray, List.set_cons_zero, List.set_cons_succ]))
        refine plan_turn ?_
        go_wp2_with fail
        refine HC.out.mono ?_
        rintro e w3 ⟨rfl, hb3⟩
        have HB3 := Lib.hid hb3
        clear hb3 HC
        go_wp2_with fail
        refine ⟨HB3.out, ?_⟩
        repeat (first | (refine plan_on _ (by rfl) (fun W hW => by (obtain ⟨q1, q2, q3, q4⟩ := HCE.out W hW; go_simp; try (first | with_reducible rfl | rw [if_neg (by omega)]))) ?_; simp only [Act.put, List.setIfInBounds_toArray, List.set_cons_zero, List.set_cons_succ]) | (refine plan_off (by rfl) ?_; simp only [Act.put, List.setIfInBounds_toArray, List.set_cons_zero, List.set_cons_succ]))
        refine plan_done ?_
        go_wp2_with fail
        go_ret
        exact ⟨ret_bool HRR.out.symm, HK2.out.trans ((hbw.out.trans (HB3.out.mono hbw.out.size)).mono HK2.out.size)⟩
      · have HNN := Lib.hid (HNX.out rfl)
        clear HHI HNX
        go_upto_region 15 with fail
        clear d0 d1 d2
        refine wp_plan (fun V => Below wr.heap.size wr V) [(0, false), (1, false), (2, false), (3, false), (4, false), (5, false), (6, true), (7, false)] (by kernel_rfl) (by kernel_rfl) HS0.out ?_
        simp only [planL, List.getElem?_cons_zero, List.getElem?_cons_succ]
        repeat (first | (refine plan_on _ (by rfl) (fun W hW => by (obtain ⟨q1, q2, q3, q4⟩ := HCE.out W hW; obtain ⟨e0, e1, e2, e3, e4, e5, e6, e7, e8, e9, e10, e11⟩ := fz_all (HSF.out W hW); go_simp; try (first | with_reducible rfl | rw [if_neg (by omega)]))) ?_; simp only [Act.put, List.setIfInBounds_toArray, List.set_cons_zero, List.set_cons_succ]) | (refine plan_off (by rfl) ?_; simp only [Act.put, List.setIfInBounds_toArray, List.set_cons_zero, List.set_cons_succ]))
        refine plan_turn ?_
        go_wp2_with fail
        refine HC.out.mono ?_
        rintro e w3 ⟨rfl, hb3⟩
        have HB3 := Lib.hid hb3
        clear hb3 HC
        go_wp2_with fail
        refine ⟨HB3.out, ?_⟩
        repeat (first | (refine plan_on _ (by rfl) (fun W hW => by (obtain ⟨q1, q2, q3, q4⟩ := HCE.out W hW; go_simp; try (first | with_reducible rfl | rw [if_neg (by omega)]))) ?_; simp only [Act.put, List.setIfInBounds_toArray, List.set_cons_zero, List.set_cons_succ]) | (refine plan_off (by rfl) ?_; simp only [Act.put, List.setIfInBounds_toArray, List.set_cons_zero, List.set_cons_succ]))
        refine plan_done ?_
        go_wp2_with fail
        go_roundw
        case rel => exact ⟨i + 1, by omega, by go_num, HNN, Lib.hid (hbw.out.trans (HB3.out.mono hbw.out.size))⟩
        case measure => simp [intOf]; omega

    · obtain rfl : i = m := by omega
      have hi2 : ¬ (i : Int) < (i : Int) := by omega
      have HF := Lib.hid (HMISS.out hno.out)
      clear HMISS HHIT
      go_wp2_with fail
      go_ret
      exact ⟨ret_bool HF.out.symm, HK2.out.trans (hbw.out.mono HK2.out.size)⟩

theorem holdD_all (z : Fz) (hz : z.tags.size ≤ 900000) {n : Nd} (h : NF n) : HoldsD z n := by
  induction h with
  | @atom a h =>
    intro B v w hd hsz
    cases hd
    have e : holdsN (fzX z) (.atom a) = holdsL (fzX z) a := by rw [holdsN]
    rw [e]
    exact hold_atom z hz a h _ rfl (by rw [ownN] at hsz; simpa using hsz) w
  | @no n h ih =>
    intro B v w hd hsz
    cases hd with
    | no hr h =>
      refine hold_no z n ih B _ _ _ w hr h ?_
      rw [ownN] at hsz
      simp at hsz
      have := ownN_mono n (show 0 ≤ 3 by omega)
      omega
  | @row k l hk h hf hl ih =>
    intro B v w hd hsz
    cases hd with
    | @row k l A m c xs hr hlm hnd =>
      have hL : (ownL l k).length ≤ 90000 := by rw [ownN, if_neg (by omega)] at hsz; exact hsz
      have hm : m ≤ 1000000 := by
        have h1 : ∀ l : List Nd, (∀ n ∈ l, NF n) → l.length ≤ (ownM l k).length := by
          intro l
          induction l with
          | nil => intro _; exact Nat.zero_le _
          | cons n l ih =>
            intro h
            rw [ownM]
            have h2 := ih (fun x hx => h x (by simp [hx]))
            have h3 := ownN_pos (h n (by simp)) (k + 1)
            simp only [List.length_append, List.length_cons]
            omega
        have h2 : l.length ≤ (ownL l k).length := by
          cases l with
          | nil => exact Nat.zero_le _
          | cons n l =>
            rw [ownL]
            have h3 := h1 l (fun x hx => h x (by simp [hx]))
            have h4 := ownN_pos (h n (by simp)) (k + 1)
            simp only [List.length_append, List.length_cons]
            omega
        omega
      rcases (show k = 0 ∨ k = 1 by omega) with rfl | rfl
      · exact hold_row0 z l ih B A m c xs w hr hlm hnd hL hm
      · exact hold_row1 z l ih B A m c xs w hr hlm hnd hL hm
/-- A rule of the document holds as the rule does. -/
theorem dholds_any (z : Fz) (hz : z.tags.size ≤ 900000) (r : Option Nd) (B : Nat) (v : DV) (w : World) (hd : DRule w B (some r) v) (hsz : (ruleT r).size ≤ 90000) : Calls Tryz.prog 9 #[.agg #[.int .i64 v.k, .slice v.A v.m v.c, .string v.s], .agg (fzA z)] w (ROf (holdsR (fzX z) r) w) := by
  match r, hd, hsz with
  | none, hd, hsz =>
    have e : v = ⟨0, none, 0, 0, ⟨#[]⟩⟩ := hd
    subst e
    exact hold_none z w
  | some n, hd, hsz =>
    have h6 : (ruleT (some n)).size = (ownN n 0).length := ownB_sz _ 0
    exact holdD_all z hz hd.1 B v w hd.2 (by omega)
end Go.Proofs.YtpgbgeofhcpocaaGreatDoor
