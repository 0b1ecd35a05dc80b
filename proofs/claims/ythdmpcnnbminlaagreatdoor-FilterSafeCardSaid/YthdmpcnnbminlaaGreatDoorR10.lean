/- A part of the joined base. -/
import Derived.Test.YthdmpcnnbminlaaGreatDoorR01
import Derived.Test.YthdmpcnnbminlaaGreatDoorR05
import Derived.Test.YthdmpcnnbminlaaGreatDoorR09
import Derived.Test.YthdmpcnnbminlaaGreatDoorR06
set_option linter.unusedVariables false
set_option maxHeartbeats 8000000
set_option maxRecDepth 100000
namespace Go.Proofs.YthdmpcnnbminlaaGreatDoor
open Go.Shelf Go.RowKit Go.Maps
open Go.WideMaps (KeyLaw)
def InR (n : Int) : Prop := -9223372036854775808 ≤ n ∧ n ≤ 9223372036854775807
def litI (x : ByteArray) (n : Int) : Lit := .string (keyBytes [.string x.data.toList, .int .i64 n])
theorem inr_wf {n : Int} (h : InR n) : (Lit.int .i64 n).wf = true := by
 unfold InR at h
 simp [Lit.wf, IntKind.min, IntKind.max, IntKind.signed, IntKind.bits]
 omega
theorem litI_inj {x x' : ByteArray} {n n' : Int} (h1 : x.size ≤ maxLen) (h2 : InR n) (h3 : x'.size ≤ maxLen) (h4 : InR n') (h : litI x n = litI x' n') : x = x' ∧ n = n' := by
 unfold litI at h
 injection h with h
 have hl : ∀ s : ByteArray, s.size ≤ maxLen → s.data.toList.length ≤ maxLen := fun s hs => by simpa using hs
 have := keyBytes_inj (l := [.string x.data.toList, .int .i64 n]) (l' := [.string x'.data.toList, .int .i64 n']) ⟨trivial, rfl, trivial⟩
  (fun a ha => by simp at ha; rcases ha with rfl | rfl <;> simp only [Lit.keyWf] <;> (first | exact hl _ h1 | exact inr_wf h2))
  (fun a ha => by simp at ha; rcases ha with rfl | rfl <;> simp only [Lit.keyWf] <;> (first | exact hl _ h3 | exact inr_wf h4)) h
 injection this with e1 e2
 injection e2 with e2 _
 injection e1 with e1
 injection e2 with _ e2
 exact ⟨ba_eq e1, e2⟩
theorem litI_same {x x' : ByteArray} {n n' : Int} (h1 : x.size ≤ maxLen) (h2 : InR n) (h3 : x'.size ≤ maxLen) (h4 : InR n') : (litI x n).sameKey (litI x' n') = decide (x = x' ∧ n = n') := by
 by_cases h : x = x' ∧ n = n'
 ·obtain ⟨rfl, rfl⟩ := h
  rw [WideAt.sameKey_self (by trivial)]
  simp
 ·rw [sameKey_ne (fun e => h (litI_inj h1 h2 h3 h4 e))]
  simp [h]
theorem idnLaw : KeyLaw Tryz.prog 172 := deep_law_laid (by kernel_rfl) (m := 2) (by omega) (of_decide_eq_true (by kernel_rfl)) (by kernel_rfl) (by kernel_rfl)
theorem idnKeyed : Keyed Tryz.prog 172 := Keyed.of_law idnLaw
theorem idn_keyOf (x : ByteArray) (n : Int) (hx : x.size ≤ maxLen) (hn : InR n) : keyOf Tryz.prog 172 (.agg #[.string x, .int .i64 n]) = some (litI x n) := by
 have hc : Tryz.prog.cellsOf 172 = 2 := by kernel_rfl
 have hc1 : Tryz.prog.cellsOf 3 = 1 := by kernel_rfl
 have hc2 : Tryz.prog.cellsOf 9 = 1 := by kernel_rfl
 have hk : Tryz.prog.keyType 172 = true := by kernel_rfl
 have hw := inr_wf hn
 obtain ⟨d, hd⟩ : ∃ d, Tryz.prog.types.size + 1 = d + 2 := ⟨Tryz.prog.types.size - 1, by
  have : 1 ≤ Tryz.prog.types.size := of_decide_eq_true (by kernel_rfl)
  omega⟩
 unfold keyOf
 rw [Tryz.underlying172]
 simp only [hk, Value.formed, Tryz.underlying172, hc, hd]
 simp [Program.keyLits, Tryz.underlying172, Tryz.underlying3, Tryz.underlying9, hc, hc1, hc2, Value.cells, hx, hw, litI]
theorem celLaw : KeyLaw Tryz.prog 262 := deep_law_laid (by kernel_rfl) (m := 2) (by omega) (of_decide_eq_true (by kernel_rfl)) (by kernel_rfl) (by kernel_rfl)
theorem celKeyed : Keyed Tryz.prog 262 := Keyed.of_law celLaw
theorem cel_keyOf (x : ByteArray) (n : Int) (hx : x.size ≤ maxLen) (hn : InR n) : keyOf Tryz.prog 262 (.agg #[.string x, .int .i64 n]) = some (litI x n) := by
 have hc : Tryz.prog.cellsOf 262 = 2 := by kernel_rfl
 have hc1 : Tryz.prog.cellsOf 3 = 1 := by kernel_rfl
 have hc2 : Tryz.prog.cellsOf 9 = 1 := by kernel_rfl
 have hk : Tryz.prog.keyType 262 = true := by kernel_rfl
 have hw := inr_wf hn
 obtain ⟨d, hd⟩ : ∃ d, Tryz.prog.types.size + 1 = d + 2 := ⟨Tryz.prog.types.size - 1, by
  have : 1 ≤ Tryz.prog.types.size := of_decide_eq_true (by kernel_rfl)
  omega⟩
 unfold keyOf
 rw [Tryz.underlying262]
 simp only [hk, Value.formed, Tryz.underlying262, hc, hd]
 simp [Program.keyLits, Tryz.underlying262, Tryz.underlying3, Tryz.underlying9, hc, hc1, hc2, Value.cells, hx, hw, litI]
def IsI (ok : Value → Bool) (w : World) (b n : Nat) (f : ByteArray → Int → Option Value) : Prop := ∃ M, MapIs Tryz.prog 172 ok w b n M ∧ ∀ x k, x.size ≤ maxLen → InR k → M (litI x k) = f x k
section
variable {ok : Value → Bool} {w w' : World} {b n : Nat} {f f' : ByteArray → Int → Option Value}
theorem IsI.made (w : World) (ok : Value → Bool) : IsI ok (w.alloc (.map #[] 0)) w.heap.size 0 (fun _ _ => none) := ⟨_, MapIs.made w Tryz.prog _ ok, fun _ _ _ _ => rfl⟩
theorem IsI.kept {S : Nat → Prop} (h : IsI ok w b n f) (k : Kept S w w') (hb : ¬ S b) : IsI ok w' b n f := by
 obtain ⟨M, h1, h2⟩ := h
 exact ⟨M, h1.kept k hb, h2⟩
theorem IsI.mono {n' : Nat} (h : IsI ok w b n f) (hn : n ≤ n') : IsI ok w b n' f := by
 obtain ⟨M, h1, h2⟩ := h
 exact ⟨M, h1.mono hn, h2⟩
theorem IsI.congr (h : IsI ok w b n f) (he : ∀ x y, f x y = f' x y) : IsI ok w b n f' := by
 obtain ⟨M, h1, h2⟩ := h
 exact ⟨M, h1, fun x y hx hy => (h2 x y hx hy).trans (he x y)⟩
def updI (f : ByteArray → Int → Option Value) (x : ByteArray) (k : Int) (v : Value) : ByteArray → Int → Option Value := fun a b => if a = x ∧ b = k then some v else f a b
theorem updI_is {M : Lit → Option Value} (h : ∀ x k, x.size ≤ maxLen → InR k → M (litI x k) = f x k) {x : ByteArray} {k : Int} (hx : x.size ≤ maxLen) (hk : InR k) (v : Value) : ∀ a b, a.size ≤ maxLen → InR b → upd M (litI x k) v (litI a b) = updI f x k v a b := fun a b ha hb => by
 unfold upd updI
 rw [litI_same ha hb hx hk]
 by_cases e : a = x ∧ b = k
 ·simp [e]
 ·simp only [e, decide_false, Bool.false_eq_true, if_false]
  exact h a b ha hb
end
end Go.Proofs.YthdmpcnnbminlaaGreatDoor
namespace Go.Proofs.YthdmpcnnbminlaaGreatDoor
open Go.Shelf Go.RowKit Go.Maps
def intC (z : Int) : List Value := [.int .i64 z]
structure PnIn (w : World) (pb sb rb : Nat) (width added : Int) (G : ByteArray → Option Value) (R : ByteArray → List Int) (B : Nat → Prop) (n : Nat) : Prop where
 blk : Blk w pb 251 #[.int .i64 width, .int .i64 added, .map (some sb), .map (some rb)]
 few : 0 ≤ added ∧ added ≤ n
 wid : 1 ≤ width ∧ width ≤ 1099511627776
 sums : SomeMap 262 okInt w sb n
 rows : GrpIn intC 1 3 w rb n 0 G R
 lens : ∀ p, (R p).length ≤ n
 ne : sb ≠ rb
 up : B pb
 us : B sb
 ur : B rb
 ug : ∀ p v g, G p = some v → v.ownBlock = some g → B g
 lt : ∀ q, B q → q < w.heap.size
def PnAt (w : World) (pb : Nat) (B : Nat → Prop) (n : Nat) : Prop := ∃ sb rb width added G R, PnIn w pb sb rb width added G R B n
section
variable {w w' : World} {pb sb rb n n' : Nat} {width added : Int} {G : ByteArray → Option Value} {R : ByteArray → List Int} {B T : Nat → Prop}
theorem SomeMap.ne_blk {k : TypeId} {ok : Value → Bool} {b g : Nat} {t : TypeId} {cs : Array Value} (h : SomeMap k ok w b n) (hb : Blk w g t cs) : b ≠ g := by obtain ⟨M, h⟩ := h; exact h.ne_blk hb
theorem PnIn.kept (h : PnIn w pb sb rb width added G R B n) (k : Kept T w w') (hT : ∀ q, B q → ¬ T q) : PnIn w' pb sb rb width added G R B n :=
 ⟨h.blk.kept k (hT _ h.up), h.few, h.wid, h.sums.kept k (hT _ h.us), h.rows.kept k (hT _ h.ur) (fun p g v hp hg => hT _ (h.ug p v g hp hg)), h.lens, h.ne, h.up, h.us, h.ur, h.ug, fun q hq => Nat.lt_of_lt_of_le (h.lt q hq) k.size⟩
theorem PnIn.mono (h : PnIn w pb sb rb width added G R B n) (hn : n ≤ n') : PnIn w pb sb rb width added G R B n' :=
 ⟨h.blk, ⟨h.few.1, by have := h.few.2; omega⟩, h.wid, h.sums.mono hn, h.rows.mono hn, fun p => Nat.le_trans (h.lens p) hn, h.ne, h.up, h.us, h.ur, h.ug, h.lt⟩
theorem PnAt.kept (h : PnAt w pb B n) (k : Kept T w w') (hT : ∀ q, B q → ¬ T q) : PnAt w' pb B n := by
 obtain ⟨sb, rb, width, added, G, R, h⟩ := h
 exact ⟨sb, rb, width, added, G, R, h.kept k hT⟩
theorem PnAt.mono (h : PnAt w pb B n) (hn : n ≤ n') : PnAt w pb B n' := by
 obtain ⟨sb, rb, width, added, G, R, h⟩ := h
 exact ⟨sb, rb, width, added, G, R, h.mono hn⟩
theorem PnAt.lt (h : PnAt w pb B n) : ∀ q, B q → q < w.heap.size := by
 obtain ⟨sb, rb, width, added, G, R, h⟩ := h
 exact h.lt
end
theorem pnew_any (h : Int) (w : World) : Calls Tryz.prog 145 #[.int .i64 h] w fun e w' => ∃ pb B, e = .returned (.pointer (some ⟨pb, 0, none⟩)) ∧ PnAt w' pb B 0 ∧ (∀ q, B q → w.heap.size ≤ q) ∧ Below w.heap.size w w' := by
 have hmm := @run_makeMap Tryz.prog
 obtain ⟨hf, hhf⟩ : ∃ hf, min (max h 1) 1099511627776 = hf := ⟨_, rfl⟩
 have HW : Hid (1 ≤ hf ∧ hf ≤ 1099511627776) := zh (by omega)
 obtain ⟨w1, hw1⟩ : ∃ w1, w.alloc (.map #[] 0) = w1 := ⟨_, rfl⟩
 obtain ⟨w2, hw2⟩ : ∃ w2, w1.alloc (.map #[] 0) = w2 := ⟨_, rfl⟩
 have z1 : Hid (w1.heap.size = w.heap.size + 1) := zh (by rw [← hw1]; simp)
 have z2 : Hid (w2.heap.size = w1.heap.size + 1) := zh (by rw [← hw2]; simp)
 have HB1 : Hid (Below w.heap.size w w1) := zh (by rw [← hw1]; exact (Below.refl _ _).alloc (Nat.le_refl _) _)
 have HB2 : Hid (Below w1.heap.size w1 w2) := zh (by rw [← hw2]; exact (Below.refl _ _).alloc (Nat.le_refl _) _)
 have HM : Hid (SomeMap 262 okInt w1 w.heap.size 0) := zh (by rw [← hw1]; exact SomeMap.made _ _ _)
 have HG : Hid (GrpIn intC 1 3 w2 w1.heap.size 0 0 (fun _ => none) (fun _ => ([] : List Int))) := zh (by rw [← hw2]; exact GrpIn.made _ _)
 go_enter Tryz.func145, Tryz.ntmps145
 go_wp2_with fail
 go_ret
 obtain ⟨w3, hw3⟩ : ∃ w3, w2.alloc (.cells #[.int .i64 hf, .int .i64 0, .map (some w.heap.size), .map (some w1.heap.size)] 251) = w3 := ⟨_, rfl⟩
 rw [hw3]
 have c3 : Below w2.heap.size w2 w3 := by rw [← hw3]; exact (Below.refl _ _).alloc (Nat.le_refl _) _
 have b3 : Blk w3 w2.heap.size 251 #[.int .i64 hf, .int .i64 0, .map (some w.heap.size), .map (some w1.heap.size)] := by rw [← hw3]; exact Blk.new _ _ _
 have zz1 := z1.out
 have zz2 := z2.out
 have c2 : Below w1.heap.size w1 w3 := HB2.out.trans (c3.mono HB2.out.size)
 have hlt := b3.lt
 refine ⟨w2.heap.size, fun q => w.heap.size ≤ q ∧ q ≤ w2.heap.size, rfl, ⟨w.heap.size, w1.heap.size, hf, 0, fun _ => none, fun _ => [], ?_⟩, fun q hq => hq.1, HB1.out.trans (c2.mono HB1.out.size)⟩
 exact ⟨b3, ⟨Int.le_refl _, Int.le_refl _⟩, HW.out, HM.out.kept (below_kept (S := fun _ => False) c2 (Nat.le_refl _)) (fun h => h), HG.out.below c3, fun _ => Nat.le_refl _, by omega, ⟨by omega, by omega⟩, ⟨by omega, by omega⟩, ⟨by omega, by omega⟩, fun p v g hp => (by cases hp), fun q hq => by omega⟩
theorem pof_any (pb : Nat) (width t : Int) (w : World) (hc : w.cell? ⟨pb, 0, none⟩ = some (.int .i64 width)) (hw : 1 ≤ width ∧ width ≤ 1099511627776) (ht : 0 ≤ t ∧ t ≤ 1099511627776) :
  Calls Tryz.prog 186 #[.pointer (some ⟨pb, 0, none⟩), .int .i64 t] w fun e w' => e = .returned (.int .i64 (t / width)) ∧ w = w' := by
 have h1 : 0 ≤ t / width := Int.ediv_nonneg ht.1 (by omega)
 have h2 : 0 ≤ t % width := Int.emod_nonneg t (by omega)
 have h3 : t / width ≤ t := Int.ediv_le_self width ht.1
 have h4 : t % width < width := Int.emod_lt_of_pos t (by omega)
 have d1 : decide (t % width < 0) = false := decide_eq_false (by omega)
 have h5 : (width == 0) = false := by simp; omega
 obtain ⟨a1, a2⟩ := hw
 obtain ⟨b1, b2⟩ := ht
 go_enter Tryz.func186, Tryz.ntmps186
 go_wp2_with fail
 go_ret
 exact ⟨rfl, rfl⟩
def PnS (W : World) (pb sb rb cb : Nat) (x : ByteArray) (z : Int) : Prop := World.cell? W ⟨pb, 2, none⟩ = some (.map (some sb)) ∧ World.cell? W ⟨pb, 3, none⟩ = some (.map (some rb)) ∧ World.cell? W ⟨cb, 0, none⟩ = some (.string x) ∧ World.cell? W ⟨cb, 1, none⟩ = some (.int .i64 z)
theorem pns_of {W : World} {pb sb rb cb : Nat} {width added : Int} {x : ByteArray} {z : Int} (h1 : Blk W pb 251 #[.int .i64 width, .int .i64 added, .map (some sb), .map (some rb)]) (h2 : Blk W cb 262 #[.string x, .int .i64 z]) : PnS W pb sb rb cb x z := ⟨h1.cell 2, h1.cell 3, h2.cell 0, h2.cell 1⟩
theorem zeroInts (w : World) : (zeroValue 255).run Tryz.prog w = .ok (.slice none 0 0) w := by kernel_rfl
def moreI (R : ByteArray → List Int) (p : ByteArray) (z : Int) : ByteArray → List Int := fun q => if q = p then R p ++ [z] else R q
def PnMid (w wx : World) (pb sb rb : Nat) (width added : Int) (B : Nat → Prop) (n cb : Nat) (x : ByteArray) (z : Int) : Prop := ∃ G' R' B', PnIn wx pb sb rb width added G' R' B' n ∧ Grows B B' w.heap.size ∧ Kept B w wx ∧ Blk wx cb 262 #[.string x, .int .i64 z]
theorem pput_any (w : World) (pb sb rb : Nat) (width added : Int) (G : ByteArray → Option Value) (R : ByteArray → List Int) (B : Nat → Prop) (n : Nat) (h : PnIn w pb sb rb width added G R B n) (x : ByteArray) (z v : Int) (hx : x.size ≤ maxLen) (hz : InR z) (hv : 1 ≤ v) (hn : n ≤ 1000000) :
  Calls Tryz.prog 185 #[.pointer (some ⟨pb, 0, none⟩), .agg #[.string x, .int .i64 z], .int .i64 v] w fun e w' => e = .returned (.tuple #[]) ∧ ∃ G' R' B', PnIn w' pb sb rb width added G' R' B' (n + 2) ∧ Grows B B' w.heap.size ∧ Kept B w w' := by
 obtain ⟨cb, hcb⟩ : ∃ cb, w.heap.size = cb := ⟨_, rfl⟩
 obtain ⟨w1, hw1⟩ : ∃ w1, w.alloc (.cells #[.string x, .int .i64 z] 262) = w1 := ⟨_, rfl⟩
 have HK1 : Hid (Kept (fun _ => False) w w1) := zh (by rw [← hw1]; exact (Kept.refl _ w).alloc _)
 have HC1 : Hid (Blk w1 cb 262 #[.string x, .int .i64 z]) := zh (by rw [← hw1, ← hcb]; exact Blk.new _ _ _)
 have HI1 : Hid (PnIn w1 pb sb rb width added G R B n) := zh (h.kept HK1.out (fun _ _ h => h))
 have HLT : Hid (∀ q, B q → q < cb) := zh (by rw [← hcb]; exact h.lt)
 have HZ1 : Hid (w1.heap.size = cb + 1) := zh (by rw [← hw1, ← hcb]; simp)
 have HCB := zh hcb
 obtain ⟨M, hM⟩ := HI1.out.sums
 have HM := zh hM
 have hok : okInt ((M (litI x z)).getD (.int .i64 0)) = true := by
  cases h2 : M (litI x z) with
  | none => rfl
  | some u => exact hM.ok_of h2
 obtain ⟨z0, hz0⟩ := mk_int hok
 have HZ0 := zh hz0
 have HLK : Hid (∀ W, (PnS W pb sb rb cb x z ∧ MapIs Tryz.prog 262 okInt W sb n M) → PnS W pb sb rb cb x z ∧ (Instr.lookup 248 (.map (some sb)) (.agg #[.string x, .int .i64 z]) false).run Tryz.prog W = .ok (.int .i64 z0) W) := zh (fun W h => ⟨h.1, by
  have := h.2.look celKeyed Tryz.underlying248 (zeroI64 W) rfl (cel_keyOf x z hx hz)
  rw [HZ0.out] at this
  exact this⟩)
 have hv0 : (v == 0) = false := by simp; omega
 clear h hM hok hz0
 clear hcb
 go_enter Tryz.func185, Tryz.ntmps185
 go_upto_region 2 with fail
 rw [HCB.out]
 refine wp_plan (fun W => PnS W pb sb rb cb x z ∧ MapIs Tryz.prog 262 okInt W sb n M) [(0, false), (1, false), (2, false), (3, false), (4, false), (5, false), (6, false)] (by kernel_rfl) (by kernel_rfl) ⟨pns_of HI1.out.blk.drew HC1.out.drew, HM.out.drew⟩ ?_
 simp only [planL, List.getElem?_cons_zero, List.getElem?_cons_succ]
 repeat (first | (refine plan_on _ (by rfl) (fun W hW => by (obtain ⟨⟨x0, x1, x2, x3⟩, hlk⟩ := HLK.out W hW; go_simp; try with_reducible rfl)) ?_; simp only [Act.put, xq1, xq2, xq3]) | (refine plan_off (by rfl) ?_; simp only [Act.put, xq1, xq2, xq3]))
 refine plan_done ?_
 have HCS : Hid (w1.drew.heap.size = cb + 1) := HZ1
 obtain ⟨w2, hw2⟩ : ∃ w2, w1.drew = w2 := ⟨_, rfl⟩
 rw [hw2]
 rw [hw2] at HCS
 have HI2 : Hid (PnIn w2 pb sb rb width added G R B n) := zh (by rw [← hw2]; exact HI1.out.kept ((Kept.refl (fun _ => False) w1).drew) (fun _ _ h => h))
 have HC2 : Hid (Blk w2 cb 262 #[.string x, .int .i64 z]) := zh (by rw [← hw2]; exact HC1.out.drew)
 have HK2 : Hid (Kept (fun _ => False) w w2) := zh (by rw [← hw2]; exact HK1.out.drew)
 clear hw2 HI1 HC1 HLK HM HK1 HZ1 hw1
 go_upto_if 16 with fail
 go_cut [] (fun wx => Hid (PnMid w wx pb sb rb width added B (n + 1) cb x z))
 case first =>
  by_cases hz : z0 = 0
  rotate_left
  ·have e0 : (z0 == 0) = false := by simp [hz]
   clear hz
   go_wp2_with fail
   go_meet
   exact zh ⟨G, R, B, HI2.out.mono (Nat.le_succ _), Grows.refl _ _, HK2.out.mono (fun _ _ h => h.elim), HC2.out⟩
  ·have e0 : (z0 == 0) = true := by simp [hz]
   clear hz
   go_wp2_with fail
   obtain ⟨A8, c8, hgr, how, hold⟩ := HI2.out.rows.row x
   obtain ⟨N, hN⟩ : ∃ N, (R x).length = N := ⟨_, rfl⟩
   have hNn : N ≤ n := by rw [← hN]; exact HI2.out.lens x
   rw [hN] at hgr how hold
   have HNN := zh hN
   have HOW := zh how
   have HOLD := zh hold
   have HGR := zh hgr
   have HRM := zh HI2.out.rows.map
   have HLK : Hid (∀ W, (PnS W pb sb rb cb x z ∧ MapIs Tryz.prog 9 okSl W rb n (mapG G)) → PnS W pb sb rb cb x z ∧ (Instr.lookup 249 (.map (some rb)) (.string x) false).run Tryz.prog W = .ok (.slice A8 N c8) W) := zh (fun W h => ⟨h.1, by
    have := h.2.look (string_keyed Tryz.underlying9) Tryz.underlying249 (zeroInts W) rfl (WideMaps.keyOf_string_mk Tryz.underlying9 hx)
    rw [mapG_at, HGR.out] at this
    exact this⟩)
   obtain ⟨i0, hi0, hy0, hy1, hy2⟩ := info_parts int_info
   clear hN how hold hgr
   refine wp_planN (fun W => PnS W pb sb rb cb x z ∧ MapIs Tryz.prog 9 okSl W rb n (mapG G)) [(0, 1), (1, 1), (2, 1), (3, 1), (4, 1), (5, 1), (6, 1), (7, 1), (8, 1), (9, 1), (10, 1), (11, 1), (12, 1), (13, 1), (14, 1), (15, 2), (16, 2), (17, 3)] (by kernel_rfl) (by kernel_rfl) ⟨pns_of HI2.out.blk.drew HC2.out.drew, HRM.out.drew⟩ ?_
   simp only [planNL, List.getElem?_cons_zero, List.getElem?_cons_succ]
   repeat (first | (refine planN_on _ (by rfl) (fun W hW => by (obtain ⟨⟨x0, x1, x2, x3⟩, hlk⟩ := HLK.out W hW; go_simp; try with_reducible rfl)) ?_; simp only [Act.put, xq1, xq2, xq3]) | (refine planN_off (by rfl) ?_; simp only [Act.put, xq1, xq2, xq3]) | (refine planN_on0 _ (by rfl) (fun W hW => by (go_simp; try with_reducible rfl)) ?_; simp only [Act.put, xq1, xq2, xq3]))
   refine planN_turn ?_
   go_wp2_with fail
   obtain ⟨w10, hw10⟩ : ∃ w10, (w2.alloc (.cells #[.int .i64 z] 3)).drew = w10 := ⟨_, rfl⟩
   rw [hw10]
   have HK10 : Hid (Kept (fun _ => False) w2 w10) := zh (by rw [← hw10]; exact ((Kept.refl _ _).alloc _).drew)
   have HM10 : Hid (MapIs Tryz.prog 9 okSl w10 rb n (mapG G)) := zh (HRM.out.kept HK10.out (fun h => h))
   have HO10 : Hid (w10.ownsRow 0 3 1 (.slice A8 N c8) N ((R x).flatMap intC)) := zh (owns_kept HOW.out HK10.out (fun _ _ h => h))
   have HR10 : Hid (RowIn w10 (w2.heap.size + 1) 1 (some ⟨w2.heap.size, 0, none⟩) 1 (intC z)) := zh (by rw [← hw10]; exact one_int w2 z _)
   have HI10 : Hid (PnIn w10 pb sb rb width added G R B n) := zh (HI2.out.kept HK10.out (fun _ _ h => h))
   have HC10 : Hid (Blk w10 cb 262 #[.string x, .int .i64 z]) := zh (HC2.out.kept HK10.out (fun h => h))
   have HZ10 : Hid (cb + 2 ≤ w10.heap.size) := zh (by rw [← hw10]; show cb + 2 ≤ (w2.alloc _).heap.size; have := HCS.out; simp; omega)
   clear hw10
   refine ⟨⟨pns_of HI10.out.blk HC10.out, HM10.out⟩, ?_⟩
   refine planN_turn ?_
   go_wp2_with (first
    | (at_builtin; refine wpList_append_row _ rfl _ _ 255 rfl 0 3 i0 _ 1 8 Tryz.underlying255 hi0 hy0 hy1 hy2 rfl (by omega) (.slice A8 N c8) N _ rfl HO10.out (w2.heap.size + 1) (some ⟨w2.heap.size, 0, none⟩) 1 1 (intC z) rfl HR10.out (fun h => by cases h) (fun u hu => by unfold intC at hu; rw [List.mem_singleton] at hu; subst hu; rfl) (by unfold maxLen; omega) (by omega) (Nat.zero_le _) ?_; intro v11 w11 ho11 hg11 hv11))
   obtain ⟨A9, c9, hv⟩ := own_shape ho11
   subst hv
   have HKX : Hid (Kept (fun q => (Value.slice A8 N c8).ownBlock = some q) w10 w11) := zh ((Kept.refl _ _).grown hg11 (fun j hj => Or.inl hj))
   have HM11 : Hid (MapIs Tryz.prog 9 okSl w11 rb n (mapG G)) := zh (HM10.out.kept HKX.out (fun h => own_ne_map HO10.out HM10.out h))
   have HB11 : Hid (Blk w11 pb 251 #[.int .i64 width, .int .i64 added, .map (some sb), .map (some rb)]) := zh (HI10.out.blk.kept HKX.out (fun h => own_ne_blk HO10.out HI10.out.blk (by decide) h))
   have HC11 : Hid (Blk w11 cb 262 #[.string x, .int .i64 z]) := zh (HC10.out.kept HKX.out (fun h => own_ne_blk HO10.out HC10.out (by decide) h))
   have HO11 := zh ho11
   have HV11 : Hid ((Value.slice A9 (N + 1) c9).ownBlock = (Value.slice A8 N c8).ownBlock ∨ ∃ g, (Value.slice A9 (N + 1) c9).ownBlock = some g ∧ w10.heap.size ≤ g) := zh (hv11.imp id (fun h => ⟨_, h, Nat.le_refl _⟩))
   clear ho11 hg11 hv11
   refine ⟨⟨pns_of HB11.out HC11.out, HM11.out⟩, ?_⟩
   refine planN_last ?_
   go_wp2_with (first
    | (at_mapUpdate; refine wpList_storeM _ rfl _ _ _ 249 rfl 9 255 (string_keyed Tryz.underlying9) Tryz.underlying249 okSl rb n (mapG G) rfl HM11.out (by unfold maxLen; omega) _ (.slice A9 (N + 1) c9) _ rfl rfl (WideMaps.keyOf_string_mk Tryz.underlying9 hx) rfl ?_; intro w12 hm12 hg12 hs12))
   refine planN_done ?_
   go_wp2_with fail
   go_meet
   have hky : Kept (fun q => q = rb) w11 w12 := (Kept.refl _ _).grown hg12 (fun j hj => by cases hj; exact Or.inl rfl)
   have hk12 : Kept (fun q => q = rb ∨ (Value.slice A8 N c8).ownBlock = some q) w10 w12 := (HKX.out.mono (fun _ _ h => Or.inr h)).trans' hky (fun _ _ h => Or.inl h)
   have ho12 : w12.ownsRow 0 3 1 (.slice A9 (N + 1) c9) (N + 1) ((R x).flatMap intC ++ intC z) := owns_kept HO11.out hky (fun g hg e => own_ne_map HO11.out HM11.out (by rw [← e]; exact hg))
   have hgrp : GrpIn intC 1 3 w12 rb (n + 1) 0 (updG G x (.slice A9 (N + 1) c9)) (moreI R x z) := HI10.out.rows.more HNN.out HOLD.out hm12 hk12 ho12 HV11.out (by unfold moreI; rw [if_pos rfl]) (fun q hq => by unfold moreI; rw [if_neg hq])
   have hrbpb : pb ≠ rb := fun e => HI10.out.rows.map.ne_blk HI10.out.blk e.symm
   have hrbcb : cb ≠ rb := fun e => HI10.out.rows.map.ne_blk HC10.out e.symm
   have hz10 := HZ10.out
   have hz12 := hk12.size
   refine zh ⟨updG G x (.slice A9 (N + 1) c9), moreI R x z, fun q => B q ∨ (cb + 1 ≤ q ∧ q < w12.heap.size), ⟨HB11.out.kept hky hrbpb, ⟨HI10.out.few.1, by have := HI10.out.few.2; omega⟩, HI10.out.wid, ?_, hgrp, fun p => ?_, HI10.out.ne, Or.inl HI10.out.up, Or.inl HI10.out.us, Or.inl HI10.out.ur, fun p v g hp hg => ?_, fun q hq => ?_⟩, ⟨fun q h => Or.inl h, fun q h => h.elim Or.inl (fun e => Or.inr (by rw [HCB.out]; omega))⟩, ?_, HC11.out.kept hky hrbcb⟩
   ·refine (HI10.out.sums.kept hk12 (fun h => ?_)).mono (Nat.le_succ _)
    rcases h with h | h
    ·exact HI10.out.ne h
    ·obtain ⟨Ms, hms⟩ := HI10.out.sums
     exact own_ne_map HO10.out hms h
   ·unfold moreI
    split
    ·rw [List.length_append, HNN.out]; simp; omega
    ·have := HI10.out.lens p; omega
   ·unfold updG at hp
    by_cases e : p = x
    ·rw [if_pos e] at hp
     cases hp
     rcases HV11.out with hv | ⟨g2, hv, hg2⟩
     ·rw [hg] at hv
      exact Or.inl (HI10.out.ug _ _ g (HOLD.out g hv.symm).2 hv.symm)
     ·rw [hg] at hv
      cases hv
      have := (hgrp.live (p := x) (by unfold updG; rw [if_pos rfl]) hg).2.1
      exact Or.inr ⟨by omega, by omega⟩
    ·rw [if_neg e] at hp
     exact Or.inl (HI10.out.ug p v g hp hg)
   ·rcases hq with hq | hq
    ·have := HI10.out.lt q hq; omega
    ·exact hq.2
   ·refine ((HK2.out.mono (fun _ _ h => h.elim)).trans (HK10.out.mono (fun _ _ h => h.elim))).trans' hk12 (fun i hi e => ?_)
    rcases e with rfl | e
    ·exact HI10.out.ur
    ·exact HI10.out.ug _ _ i (HOLD.out i e).2 e
 case rest =>
 obtain ⟨w9, rfl⟩ : ∃ w9 : World, w9 = wc := ⟨_, rfl⟩
 obtain ⟨G', R', B', hI9, hg9, hk9, hc9⟩ := hcut.out
 obtain ⟨M9, hM9⟩ := hI9.sums
 have HI9 := zh hI9
 have HG9 := zh hg9
 have HK9 := zh hk9
 have HC9 := zh hc9
 have HM9 := zh hM9
 clear hI9 hg9 hk9 hc9 hM9 hcut HI2 HC2 HK2 HCS
 go_wp2_with fail
 refine wp_planN (fun W => PnS W pb sb rb cb x z) [(0, 1), (1, 1), (2, 1), (3, 1), (4, 1), (5, 1), (6, 1), (7, 1), (8, 3)] (by kernel_rfl) (by kernel_rfl) (pns_of HI9.out.blk.drew HC9.out.drew) ?_
 simp only [planNL, List.getElem?_cons_zero, List.getElem?_cons_succ]
 repeat (first | (refine planN_on _ (by rfl) (fun W hW => by (obtain ⟨x0, x1, x2, x3⟩ := hW; go_simp; try with_reducible rfl)) ?_; simp only [Act.put, xq1, xq2, xq3]) | (refine planN_off (by rfl) ?_; simp only [Act.put, xq1, xq2, xq3]) | (refine planN_on0 _ (by rfl) (fun W hW => by (go_simp; try with_reducible rfl)) ?_; simp only [Act.put, xq1, xq2, xq3]))
 refine planN_last ?_
 go_wp2_with (first
  | (at_mapUpdate; refine wpList_storeM _ rfl _ _ _ 248 rfl 262 2 celKeyed Tryz.underlying248 okInt sb (n + 1) M9 rfl HM9.out.drew (by unfold maxLen; omega) _ _ _ rfl rfl (cel_keyOf x z hx hz) rfl ?_; intro w12 hm12 hg12 hs12))
 refine planN_done ?_
 go_end0
 have hk : Kept (fun i => i = sb) w9 w12 := ((Kept.refl _ w9).drew).grown hg12 (fun j hj => by cases hj; exact Or.inl rfl)
 have H := HI9.out
 refine ⟨rfl, G', R', B', ⟨H.blk.kept hk (fun e => H.sums.ne_blk H.blk e.symm), ⟨H.few.1, by have := H.few.2; omega⟩, H.wid, ⟨_, hm12⟩, (H.rows.kept hk (fun e => H.ne e.symm) (fun p g v hp hg e => ?_)).mono (Nat.le_succ _), fun p => Nat.le_succ_of_le (H.lens p), H.ne, H.up, H.us, H.ur, H.ug, fun q hq => Nat.lt_of_lt_of_le (H.lt q hq) hk.size⟩, HG9.out, HK9.out.trans' hk (fun i hi e => ?_)⟩
 ·by_cases hr : R' p = []
  ·rw [H.rows.none_ p hr] at hp; cases hp
  ·obtain ⟨g', cap, e1, e2, _⟩ := H.rows.some_ p hr
   rw [e1] at hp
   cases hp
   obtain ⟨Ms, hms⟩ := H.sums
   exact own_ne_map e2 hms (by rw [← e]; exact hg)
 ·rcases HG9.out.new i (by rw [e]; exact H.us) with h1 | h1
  ·exact h1
  ·omega
end Go.Proofs.YthdmpcnnbminlaaGreatDoor
namespace Go.Proofs.YthdmpcnnbminlaaGreatDoor
open Go.Shelf Go.RowKit Go.Maps
theorem PnIn.row_ne {w : World} {pb sb rb n : Nat} {width added : Int} {G : ByteArray → Option Value} {R : ByteArray → List Int} {B : Nat → Prop} (h : PnIn w pb sb rb width added G R B n) {p : ByteArray} {v : Value} {g : Nat} (hp : G p = some v) (hg : v.ownBlock = some g) : g ≠ pb := fun e => by
 by_cases hr : R p = []
 ·rw [h.rows.none_ p hr] at hp; cases hp
 ·obtain ⟨g', cap, e1, e2, _⟩ := h.rows.some_ p hr
  rw [e1] at hp
  cases hp
  exact own_ne_blk e2 h.blk (by decide) (by rw [← e]; exact hg)
def PnAdd (w : World) (pb : Nat) (B : Nat → Prop) (n : Nat) (e : Ending) (w' : World) : Prop := e = .returned (.bool true) ∧ ∃ B', PnAt w' pb B' (n + 3) ∧ Grows B B' w.heap.size ∧ Kept B w w'
theorem padd_any (w : World) (pb : Nat) (B : Nat → Prop) (n : Nat) (h : PnAt w pb B n) (x : ByteArray) (t v : Int) (hx : 1 ≤ x.size ∧ x.size ≤ 24) (ht : 0 ≤ t ∧ t ≤ 1099511627776) (hv : 1 ≤ v ∧ v ≤ 1048576) (hn : n ≤ 900000) :
  Calls Tryz.prog 159 #[.pointer (some ⟨pb, 0, none⟩), .string x, .int .i64 t, .int .i64 v] w (PnAdd w pb B n) := by
 obtain ⟨sb, rb, width, added, G, R, h⟩ := h
 have hf := h.few
 have hwd := h.wid
 obtain ⟨w1, hw1⟩ : ∃ w1, w.setCell ⟨pb, 1, none⟩ (.int .i64 (added + 1)) = w1 := ⟨_, rfl⟩
 have HK : Hid (Kept (fun q => q = pb) w w1) := zh (by rw [← hw1]; exact (Kept.refl (fun q => q = pb) w).setCell (p := ⟨pb, 1, none⟩) (Or.inl rfl) _)
 have HS : Hid (w1.heap.size = w.heap.size) := zh (by rw [← hw1]; simp [World.setCell])
 have HD : Hid (PnIn w1 pb sb rb width (added + 1) G R B (n + 1)) := zh (by
  refine ⟨by rw [← hw1]; exact h.blk.set_ 1 _, by omega, h.wid, (h.sums.kept HK.out (fun e => h.sums.ne_blk h.blk e)).mono (Nat.le_succ _), (h.rows.kept HK.out (fun e => h.rows.map.ne_blk h.blk e) (fun p g v hp hg e => h.row_ne hp hg e)).mono (Nat.le_succ _), fun p => Nat.le_succ_of_le (h.lens p), h.ne, h.up, h.us, h.ur, h.ug, fun q hq => Nat.lt_of_lt_of_le (h.lt q hq) HK.out.size⟩)
 have h1 : 0 ≤ t / width := Int.ediv_nonneg ht.1 (by omega)
 have h3 : t / width ≤ t := Int.ediv_le_self width ht.1
 obtain ⟨z, hz⟩ : ∃ z, t / width = z := ⟨_, rfl⟩
 rw [hz] at h1 h3
 have HOF := zh (pof_any pb width t w1 (HD.out.blk.cell 0) hwd ht)
 rw [hz] at HOF
 have HP := zh (pput_any w1 pb sb rb width (added + 1) G R B (n + 1) HD.out x z v (by unfold maxLen; omega) ⟨by omega, by omega⟩ hv.1 (by omega))
 have HBD : Hid (B pb) := zh h.up
 have c1 : w.cell? ⟨pb, 1, none⟩ = some (.int .i64 added) := h.blk.cell 1
 have f1 : w.frozen? ⟨pb, 1, none⟩ = false := h.blk.frozen 1
 have d1 : decide ((x.size : Int) < 1) = false := decide_eq_false (by omega)
 have d2 : decide (24 < (x.size : Int)) = false := decide_eq_false (by omega)
 have d3 : decide (t < 0) = false := decide_eq_false (by omega)
 have d4 : decide ((1099511627776 : Int) < t) = false := decide_eq_false (by omega)
 have d5 : decide (v < 0) = false := decide_eq_false (by omega)
 have d6 : decide ((1048576 : Int) < v) = false := decide_eq_false (by omega)
 have d7 : decide ((1048576 : Int) ≤ added) = false := decide_eq_false (by omega)
 clear h hz
 go_enter Tryz.func159, Tryz.ntmps159
 go_wp2_with fail
 refine HOF.out.mono ?_
 rintro e w2 ⟨rfl, rfl⟩
 go_wp2_with fail
 refine HP.out.mono ?_
 rintro e w2 ⟨rfl, G', R', B', hd, hg, hk⟩
 have HD2 := zh hd
 have HG2 := zh hg
 have HK2 := zh hk
 have HW1 := zh hw1
 clear hd hg hk hw1 c1 f1
 go_wp2_with fail
 go_ret
 exact ⟨rfl, B', ⟨sb, rb, width, added + 1, G', R', HD2.out⟩, by rw [← HS.out]; exact HG2.out, (HK.out.mono (fun q _ e => by rw [e]; exact HBD.out)).trans HK2.out⟩
end Go.Proofs.YthdmpcnnbminlaaGreatDoor
