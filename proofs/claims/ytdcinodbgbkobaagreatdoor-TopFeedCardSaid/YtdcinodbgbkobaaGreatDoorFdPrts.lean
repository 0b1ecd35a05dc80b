/- strings.Builder, strings.Join, strconv.Itoa: the library's contracts laid at this seat; a builder stays one while every old block stands. feed.line. feed.Print. -/
import Derived.Test.YtdcinodbgbkobaaGreatDoorShelf
import Derived.Shelf.Strconv.Itoa3
import Derived.Shelf.Strings.OnBuilder
import Derived.Shelf.Strings.BuilderK
import Derived.Lib.AppendIntMem
import Derived.Test.YtdcinodbgbkobaaGreatDoorGg
namespace Go.Proofs.YtdcinodbgbkobaaGreatDoor
/-! FdBld -/
open Go.Shelf Go.RowKit
set_option linter.unusedVariables false

def bren : Go.Shelf.Ren := ⟨fun n => if n = 167 then 37 else Tryz.lays156_ren.f n, Tryz.lays156_ren.t, Tryz.lays156_ren.g⟩
theorem lays166 : Lays.n166 Tryz.prog Tryz.lays156_ren := { Tryz.lays156 with }
theorem lays169 : Lays.n169 Tryz.prog Tryz.lays156_ren := { Tryz.lays156 with }
theorem lays167 : Lays.n167 Tryz.prog bren := {
  mixed := by kernel_rfl
  f167 := Tryz.func37.trans (congrArg some (by kernel_rfl))
  f240 := Tryz.lays156.f240
  f276 := Tryz.lays156.f276
  t0 := Tryz.lays156.t0
  a0 := Tryz.lays156.a0
  z0 := Tryz.lays156.z0
  v0 := Tryz.lays156.v0
  t4 := Tryz.lays156.t4
  a4 := Tryz.lays156.a4
  z4 := Tryz.lays156.z4
  v4 := Tryz.lays156.v4
  t5 := Tryz.underlying5
  a5 := Tryz.isAgg5
  z5 := Tryz.sizeOf5
  v5 := Tryz.zeroValue5
  t9 := Tryz.lays156.t9
  a9 := Tryz.lays156.a9
  z9 := Tryz.lays156.z9
  v9 := Tryz.lays156.v9
  t20 := Tryz.lays156.t20
  a20 := Tryz.lays156.a20
  z20 := Tryz.lays156.z20
  v20 := Tryz.lays156.v20
  t37 := Tryz.lays156.t37
  a37 := Tryz.lays156.a37
  z37 := Tryz.lays156.z37
  v37 := Tryz.lays156.v37
  t70 := Tryz.lays156.t70
  a70 := Tryz.lays156.a70
  z70 := Tryz.lays156.z70
  v70 := Tryz.lays156.v70
  t72 := Tryz.lays156.t72
  a72 := Tryz.lays156.a72
  z72 := Tryz.lays156.z72
  v72 := Tryz.lays156.v72
  t75 := Tryz.lays156.t75
  a75 := Tryz.lays156.a75
  z75 := Tryz.lays156.z75
  v75 := Tryz.lays156.v75
  t164 := Tryz.lays156.t164
  a164 := Tryz.lays156.a164
  z164 := Tryz.lays156.z164
  v164 := Tryz.lays156.v164 }
theorem bx : Builder.Extra Tryz.prog Tryz.lays156_ren where
  sizeBuilder := by kernel_rfl
  liesBuilder := by kernel_rfl
  t5 := Tryz.underlying5
  a5 := Tryz.isAgg5
  z5 := Tryz.sizeOf5
  v5 := Tryz.zeroValue5
  infoByte := by kernel_rfl
  cellsByte := by kernel_rfl
  sizeByte := by kernel_rfl
  neB5 := by decide
theorem bx' : Builder.Extra Tryz.prog bren where
  sizeBuilder := by kernel_rfl
  liesBuilder := by kernel_rfl
  t5 := Tryz.underlying5
  a5 := Tryz.isAgg5
  z5 := Tryz.sizeOf5
  v5 := Tryz.zeroValue5
  infoByte := by kernel_rfl
  cellsByte := by kernel_rfl
  sizeByte := by kernel_rfl
  neB5 := by decide

/-- A builder of the call's own that holds these bytes. -/
def IsB (B b : Nat) (l : List UInt8) (w : World) : Prop := Lib.IsBuilderF 95 5 B b (Lib.byteCells l) w
theorem wbyte_any (B b : Nat) (l : List UInt8) (c : UInt8) (w : World) (h : IsB B b l w) (hlen : l.length + 1 ≤ 140737488355328) (hBw : B ≤ w.heap.size) :
    Calls Tryz.prog 37 #[.pointer (some ⟨b, 0, none⟩), .int .u8 (c.toNat : Int)] w fun e w' => e = .returned .nilIface ∧ IsB B b (l ++ [c]) w' ∧ Below B w w' := by
  have h1 := Any.Builder_WriteByte_k lays167 bx' B b (Lib.byteCells l) (c.toNat : Int) w h (by rw [Lib.byteCells_length]; exact hlen) hBw
  refine Calls.mono h1 ?_
  rintro e w' ⟨rfl, h2, h3, _⟩
  refine ⟨rfl, ?_, h3⟩
  unfold IsB
  rw [Lib.byteCells_append]
  exact Or.inr h2
theorem wstr_any (B b : Nat) (l : List UInt8) (s : ByteArray) (w : World) (h : IsB B b l w) (hlen : l.length + s.size ≤ 140737488355328) (hBw : B ≤ w.heap.size) :
    Calls Tryz.prog 35 #[.pointer (some ⟨b, 0, none⟩), .string s] w fun e w' => e = .returned (.tuple #[.int .i64 s.size, .nilIface]) ∧ IsB B b (l ++ s.data.toList) w' ∧ Below B w w' := by
  have h1 := Any.Builder_WriteString_k lays166 bx B b (Lib.byteCells l) s w h (by rw [Lib.byteCells_length]; exact hlen) hBw
  refine Calls.mono h1 ?_
  rintro e w' ⟨rfl, h2, h3, _⟩
  refine ⟨rfl, ?_, h3⟩
  unfold IsB
  rw [Lib.byteCells_append]
  exact Or.inr h2
theorem bstring_any (B b : Nat) (l : List UInt8) (w : World) (h : IsB B b l w) (hBw : B ≤ w.heap.size) :
    Calls Tryz.prog 38 #[.pointer (some ⟨b, 0, none⟩)] w fun e w' => e = .returned (.string ⟨l.toArray⟩) ∧ Below B w w' := by
  have h1 := Any.Builder_String_any_k lays169 bx B b l w h hBw
  refine Calls.mono h1 ?_
  rintro e w' ⟨rfl, h2, h3, _⟩
  exact ⟨rfl, h3⟩
theorem join_any (bk o c : Nat) (xs : List ByteArray) (sep : ByteArray) (w : World) (hcells : ∀ (j : Nat) x, xs[j]? = some x → w.cell? ⟨bk, o + j, none⟩ = some (.string x)) (hbk : bk < w.heap.size) (hN : xs.length ≤ 140737488355328) (hcap : xs.length ≤ c) (hlen : (Lib.join (xs.map (·.data.toList)) sep.data.toList).length ≤ 140737488355328) :
    Calls Tryz.prog 59 #[.slice (some ⟨bk, o, none⟩) xs.length c, .string sep] w fun e w' => e = .returned (.string ⟨(Lib.join (xs.map (·.data.toList)) sep.data.toList).toArray⟩) ∧ Below w.heap.size w w' :=
  Any.strings_Join Tryz.lays156 bx bk o c xs sep w hcells hbk hN hcap hlen
/-- What a contract asks. -/
abbrev hypOf {A B : Prop} (_ : A → B) : Prop := A
/-- The library's table of powers of ten is there. -/
def TabAt (w : World) : Prop := hypOf (Any.strconv_Itoa Tryz.laysM171 0 (by decide) (by decide) w)
theorem TabAt.keep {w w' : World} (h : TabAt w) (hb : Below w.heap.size w w') : TabAt w' := Lib.tabBelow_of_tabIs h w' hb
theorem itoa_any (n : Int) (h0 : -9223372036854775808 ≤ n) (h1 : n ≤ 9223372036854775807) (w : World) (htab : TabAt w) :
    Calls Tryz.prog 60 #[.int .i64 n] w fun e w' => e = .returned (.string ⟨(Lib.itoa n).toArray⟩) ∧ Below w.heap.size w w' := by
  refine Calls.mono (Any.strconv_Itoa Tryz.laysM171 n h0 h1 w htab) ?_
  rintro e w' ⟨rfl, k, os, rfl⟩
  exact ⟨rfl, Lib.below_grow _ w (Nat.le_refl _) k os⟩
/-- A builder stays a builder while every old block stands. -/
theorem IsB.old {B b : Nat} {l : List UInt8} {w w' : World} (h : IsB B b l w) (hb : Below w.heap.size w w') : IsB B b l w' := by
  have go : ∀ p, Lib.BuilderAtF 95 5 B b p (Lib.byteCells l) w → Lib.BuilderAtF 95 5 B b p (Lib.byteCells l) w' := fun p q => by
    have hlt := q.lt
    obtain ⟨hB, v, hbk, hown, hne⟩ := q
    refine ⟨hB, v, (hb.block b hlt).trans hbk, ⟨hown.1, ?_⟩, hne⟩
    rcases hown.2 with hn | ⟨g, cap, cur, fz, hv, hbg, hg, rest⟩
    · exact .inl hn
    · exact .inr ⟨g, cap, cur, fz, hv, hbg, (hb.block g (Array.getElem?_eq_some_iff.1 hg).1).trans hg, rest⟩
  exact h.elim (fun q => .inl (go _ q)) (fun q => .inr (go _ q))
theorem IsB.fresh (w : World) : IsB w.heap.size w.heap.size [] (w.alloc (.cells #[.pointer none, .slice none 0 0] 95)) := Lib.IsBuilderF.of (Lib.fresh_isBuilder 95 5 w)

/-! FdLine -/
open Go.Shelf Go.RowKit Go.Maps
set_option linter.unusedVariables false

def InI (n : Int) : Prop := -9223372036854775808 ≤ n ∧ n ≤ 9223372036854775807
set_option maxHeartbeats 8000000 in
set_option maxRecDepth 100000 in
theorem line_any (x : It) (w : World) (hs : x.name.size + x.maker.size + x.tags.size ≤ 1000000) (hp : InI x.price) (hst : InI x.stock) (ht : TabAt w) :
    Calls Tryz.prog 36 #[itA x] w fun e w' => e = .returned (.string (lineB (roOf x))) ∧ Below w.heap.size w w' := by
  have HTB : Hid (∀ w', Below w.heap.size w w' → TabAt w') := Lib.hid (fun w' hb => ht.keep hb)
  have HPR : Hid (InI x.price) := Lib.hid hp
  have HST : Hid (InI x.stock) := Lib.hid hst
  have HSZ : Hid ((roOf x).name.size + (roOf x).maker.size + (roOf x).tags.size ≤ 1000000) := Lib.hid hs
  obtain ⟨w1, hw1⟩ : ∃ w1, w.alloc (.cells #[.string x.name, .string x.maker, .string x.tags, .int .i64 x.stock, .int .i64 x.price, .int .i64 x.born, .bool x.listed] 47) = w1 := ⟨_, rfl⟩
  have HK1 : Hid (Blk w1 w.heap.size 47 #[.string x.name, .string x.maker, .string x.tags, .int .i64 x.stock, .int .i64 x.price, .int .i64 x.born, .bool x.listed]) := Lib.hid (by rw [← hw1]; exact Blk.new _ _ _)
  have HB1 : Hid (Below w.heap.size w w1) := Lib.hid (by rw [← hw1]; exact (Below.refl _ _).alloc (Nat.le_refl _) _)
  have HZ1 : Hid (w.heap.size ≤ w1.heap.size) := Lib.hid HB1.out.size
  have c2 : w1.cell? ⟨w.heap.size, 2, none⟩ = some (.string x.tags) := HK1.out.cell 2
  have HSC : Hid (∀ W, Below w1.heap.size w1 W → W.cell? ⟨w.heap.size, 0, none⟩ = some (.string x.name) ∧ W.cell? ⟨w.heap.size, 1, none⟩ = some (.string x.maker) ∧ W.cell? ⟨w.heap.size, 2, none⟩ = some (.string x.tags) ∧ W.cell? ⟨w.heap.size, 3, none⟩ = some (.int .i64 x.stock) ∧ W.cell? ⟨w.heap.size, 4, none⟩ = some (.int .i64 x.price)) := Lib.hid (fun W hW =>
    ⟨(hW.cell (p := ⟨w.heap.size, _, none⟩) HK1.out.lt).trans (HK1.out.cell 0), (hW.cell (p := ⟨w.heap.size, _, none⟩) HK1.out.lt).trans (HK1.out.cell 1), (hW.cell (p := ⟨w.heap.size, _, none⟩) HK1.out.lt).trans (HK1.out.cell 2), (hW.cell (p := ⟨w.heap.size, _, none⟩) HK1.out.lt).trans (HK1.out.cell 3), (hW.cell (p := ⟨w.heap.size, _, none⟩) HK1.out.lt).trans (HK1.out.cell 4)⟩)
  have HS0 : Hid (Below w1.heap.size w1 w1.drew) := Lib.hid (below_drew (Below.refl _ _))
  have HI1 := Lib.hid (itoa_any x.price hp.1 hp.2 w1.drew (HTB.out _ (below_drew HB1.out)))
  clear hs hp hst ht
  unfold itA
  go_enter Tryz.func36, Tryz.ntmps36
  by_cases ht0 : x.tags = ⟨#[]⟩
  · have q0 : x.tags.toList.isEmpty = true := by rw [emp_iff]; exact decide_eq_true ht0
    have HLW : Hid (Lib.join (List.map (fun s : ByteArray => s.data.toList) [x.name, x.maker, ⟨#[46]⟩, ⟨(Lib.itoa x.price).toArray⟩, ⟨(Lib.itoa x.stock).toArray⟩]) (⟨#[32]⟩ : ByteArray).data.toList = lineL (roOf x)) := Lib.hid (by
      unfold lineL lineW
      rw [show tagsT (roOf x).tags = ⟨#[46]⟩ from if_pos ht0]
      rfl)
    clear ht0
    go_wp2_with fail
    refine wp_plan (fun W => Below w1.heap.size w1 W) [(0, false), (1, false), (2, false), (3, false), (4, false), (5, false), (6, false), (8, false), (9, false), (7, true), (10, true), (11, true), (12, true), (13, false)] (by kernel_rfl) (by kernel_rfl) HS0.out ?_
    simp only [planL, List.getElem?_cons_zero, List.getElem?_cons_succ]
    repeat (first | (refine plan_on _ (by rfl) (fun W hW => by (obtain ⟨x0, x1, x2, x3, x4⟩ := HSC.out W hW; go_simp; try with_reducible rfl)) ?_; simp only [Act.put, List.setIfInBounds_toArray, List.set_cons_zero, List.set_cons_succ]) | (refine plan_off (by rfl) ?_; simp only [Act.put, List.setIfInBounds_toArray, List.set_cons_zero, List.set_cons_succ]))
    refine plan_turn ?_
    go_wp2_with fail
    refine HI1.out.mono ?_
    rintro e w3 ⟨rfl, hb3⟩
    have HB3 : Hid (Below w1.heap.size w1 w3) := Lib.hid (HS0.out.trans (hb3.mono HS0.out.size))
    have HI2 := Lib.hid (itoa_any x.stock HST.out.1 HST.out.2 w3 (HTB.out w3 (HB1.out.trans (HB3.out.mono HZ1.out))))
    clear hb3 HI1
    go_wp2_with fail
    refine ⟨HB3.out, ?_⟩
    refine plan_turn ?_
    go_wp2_with fail
    refine HI2.out.mono ?_
    rintro e w4 ⟨rfl, hb4⟩
    have HB4 : Hid (Below w1.heap.size w1 w4) := Lib.hid (HB3.out.trans (hb4.mono HB3.out.size))
    clear hb4 HI2
    go_wp2_with fail
    refine ⟨HB4.out, ?_⟩
    refine plan_turn ?_
    obtain ⟨w5, hw5⟩ : ∃ w5, w4.alloc (.cells #[.string x.name, .string x.maker, .string ⟨#[46]⟩, .string ⟨(Lib.itoa x.price).toArray⟩, .string ⟨(Lib.itoa x.stock).toArray⟩] 9) = w5 := ⟨_, rfl⟩
    have HK5 : Hid (Blk w5 w4.heap.size 9 #[.string x.name, .string x.maker, .string ⟨#[46]⟩, .string ⟨(Lib.itoa x.price).toArray⟩, .string ⟨(Lib.itoa x.stock).toArray⟩]) := Lib.hid (by rw [← hw5]; exact Blk.new _ _ _)
    have HB5 : Hid (Below w1.heap.size w1 w5) := Lib.hid (by rw [← hw5]; exact HB4.out.alloc HB4.out.size _)
    go_wp2_with fail
    clear hw5
    refine ⟨HB5.out, ?_⟩
    refine plan_turn ?_
    have HJ := Lib.hid (join_any w4.heap.size 0 5 [x.name, x.maker, ⟨#[46]⟩, ⟨(Lib.itoa x.price).toArray⟩, ⟨(Lib.itoa x.stock).toArray⟩] ⟨#[32]⟩ w5 (fun j y hy => by
      have hj : j = 0 ∨ j = 1 ∨ j = 2 ∨ j = 3 ∨ j = 4 := by
        have := (List.getElem?_eq_some_iff.1 hy).1
        simp at this
        omega
      rcases hj with rfl | rfl | rfl | rfl | rfl <;> simp at hy <;> subst hy
      · exact HK5.out.cell 0
      · exact HK5.out.cell 1
      · exact HK5.out.cell 2
      · exact HK5.out.cell 3
      · exact HK5.out.cell 4) HK5.out.lt (by simp) (by simp) (by
        have h := line_size (r := roOf x) HPR.out HST.out HSZ.out
        have e : (lineB (roOf x)).size = (lineL (roOf x)).length := by unfold lineB; show (lineL (roOf x)).toArray.size = _; simp
        rw [e] at h
        have e2 : Lib.join (List.map (fun s : ByteArray => s.data.toList) [x.name, x.maker, ⟨#[46]⟩, ⟨(Lib.itoa x.price).toArray⟩, ⟨(Lib.itoa x.stock).toArray⟩]) (⟨#[32]⟩ : ByteArray).data.toList = lineL (roOf x) := HLW.out
        rw [e2]
        omega))
    go_wp2_with fail
    refine HJ.out.mono ?_
    rintro e w6 ⟨rfl, hb6⟩
    have HB6 : Hid (Below w1.heap.size w1 w6) := Lib.hid (HB5.out.trans (hb6.mono HB5.out.size))
    clear hb6 HJ
    go_wp2_with fail
    refine ⟨HB6.out, ?_⟩
    repeat (first | (refine plan_on _ (by rfl) (fun W hW => by (obtain ⟨x0, x1, x2, x3, x4⟩ := HSC.out W hW; go_simp; try with_reducible rfl)) ?_; simp only [Act.put, List.setIfInBounds_toArray, List.set_cons_zero, List.set_cons_succ]) | (refine plan_off (by rfl) ?_; simp only [Act.put, List.setIfInBounds_toArray, List.set_cons_zero, List.set_cons_succ]))
    refine plan_done ?_
    go_wp2_with fail
    go_ret
    exact ⟨congrArg (fun l : List UInt8 => Ending.returned (Value.string ⟨l.toArray⟩)) HLW.out, HB1.out.trans (HB6.out.mono HZ1.out)⟩
  · have q0 : x.tags.toList.isEmpty = false := by rw [emp_iff]; exact decide_eq_false ht0
    have HLW : Hid (Lib.join (List.map (fun s : ByteArray => s.data.toList) [x.name, x.maker, x.tags, ⟨(Lib.itoa x.price).toArray⟩, ⟨(Lib.itoa x.stock).toArray⟩]) (⟨#[32]⟩ : ByteArray).data.toList = lineL (roOf x)) := Lib.hid (by
      unfold lineL lineW
      rw [show tagsT (roOf x).tags = x.tags from if_neg ht0]
      rfl)
    clear ht0
    go_wp2_with fail
    refine wp_plan (fun W => Below w1.heap.size w1 W) [(0, false), (1, false), (2, false), (3, false), (4, false), (5, false), (6, false), (8, false), (9, false), (7, true), (10, true), (11, true), (12, true), (13, false)] (by kernel_rfl) (by kernel_rfl) HS0.out ?_
    simp only [planL, List.getElem?_cons_zero, List.getElem?_cons_succ]
    repeat (first | (refine plan_on _ (by rfl) (fun W hW => by (obtain ⟨x0, x1, x2, x3, x4⟩ := HSC.out W hW; go_simp; try with_reducible rfl)) ?_; simp only [Act.put, List.setIfInBounds_toArray, List.set_cons_zero, List.set_cons_succ]) | (refine plan_off (by rfl) ?_; simp only [Act.put, List.setIfInBounds_toArray, List.set_cons_zero, List.set_cons_succ]))
    refine plan_turn ?_
    go_wp2_with fail
    refine HI1.out.mono ?_
    rintro e w3 ⟨rfl, hb3⟩
    have HB3 : Hid (Below w1.heap.size w1 w3) := Lib.hid (HS0.out.trans (hb3.mono HS0.out.size))
    have HI2 := Lib.hid (itoa_any x.stock HST.out.1 HST.out.2 w3 (HTB.out w3 (HB1.out.trans (HB3.out.mono HZ1.out))))
    clear hb3 HI1
    go_wp2_with fail
    refine ⟨HB3.out, ?_⟩
    refine plan_turn ?_
    go_wp2_with fail
    refine HI2.out.mono ?_
    rintro e w4 ⟨rfl, hb4⟩
    have HB4 : Hid (Below w1.heap.size w1 w4) := Lib.hid (HB3.out.trans (hb4.mono HB3.out.size))
    clear hb4 HI2
    go_wp2_with fail
    refine ⟨HB4.out, ?_⟩
    refine plan_turn ?_
    obtain ⟨w5, hw5⟩ : ∃ w5, w4.alloc (.cells #[.string x.name, .string x.maker, .string x.tags, .string ⟨(Lib.itoa x.price).toArray⟩, .string ⟨(Lib.itoa x.stock).toArray⟩] 9) = w5 := ⟨_, rfl⟩
    have HK5 : Hid (Blk w5 w4.heap.size 9 #[.string x.name, .string x.maker, .string x.tags, .string ⟨(Lib.itoa x.price).toArray⟩, .string ⟨(Lib.itoa x.stock).toArray⟩]) := Lib.hid (by rw [← hw5]; exact Blk.new _ _ _)
    have HB5 : Hid (Below w1.heap.size w1 w5) := Lib.hid (by rw [← hw5]; exact HB4.out.alloc HB4.out.size _)
    go_wp2_with fail
    clear hw5
    refine ⟨HB5.out, ?_⟩
    refine plan_turn ?_
    have HJ := Lib.hid (join_any w4.heap.size 0 5 [x.name, x.maker, x.tags, ⟨(Lib.itoa x.price).toArray⟩, ⟨(Lib.itoa x.stock).toArray⟩] ⟨#[32]⟩ w5 (fun j y hy => by
      have hj : j = 0 ∨ j = 1 ∨ j = 2 ∨ j = 3 ∨ j = 4 := by
        have := (List.getElem?_eq_some_iff.1 hy).1
        simp at this
        omega
      rcases hj with rfl | rfl | rfl | rfl | rfl <;> simp at hy <;> subst hy
      · exact HK5.out.cell 0
      · exact HK5.out.cell 1
      · exact HK5.out.cell 2
      · exact HK5.out.cell 3
      · exact HK5.out.cell 4) HK5.out.lt (by simp) (by simp) (by
        have h := line_size (r := roOf x) HPR.out HST.out HSZ.out
        have e : (lineB (roOf x)).size = (lineL (roOf x)).length := by unfold lineB; show (lineL (roOf x)).toArray.size = _; simp
        rw [e] at h
        have e2 : Lib.join (List.map (fun s : ByteArray => s.data.toList) [x.name, x.maker, x.tags, ⟨(Lib.itoa x.price).toArray⟩, ⟨(Lib.itoa x.stock).toArray⟩]) (⟨#[32]⟩ : ByteArray).data.toList = lineL (roOf x) := HLW.out
        rw [e2]
        omega))
    go_wp2_with fail
    refine HJ.out.mono ?_
    rintro e w6 ⟨rfl, hb6⟩
    have HB6 : Hid (Below w1.heap.size w1 w6) := Lib.hid (HB5.out.trans (hb6.mono HB5.out.size))
    clear hb6 HJ
    go_wp2_with fail
    refine ⟨HB6.out, ?_⟩
    repeat (first | (refine plan_on _ (by rfl) (fun W hW => by (obtain ⟨x0, x1, x2, x3, x4⟩ := HSC.out W hW; go_simp; try with_reducible rfl)) ?_; simp only [Act.put, List.setIfInBounds_toArray, List.set_cons_zero, List.set_cons_succ]) | (refine plan_off (by rfl) ?_; simp only [Act.put, List.setIfInBounds_toArray, List.set_cons_zero, List.set_cons_succ]))
    refine plan_done ?_
    go_wp2_with fail
    go_ret
    exact ⟨congrArg (fun l : List UInt8 => Ending.returned (Value.string ⟨l.toArray⟩)) HLW.out, HB1.out.trans (HB6.out.mono HZ1.out)⟩

/-! FdPrint -/
open Go.Shelf Go.RowKit Go.Maps
set_option linter.unusedVariables false

def ItFew (x : It) : Prop := x.name.size + x.maker.size + x.tags.size ≤ 1000000 ∧ InI x.price ∧ InI x.stock
theorem ItFew.sh {x : It} (h : ItFew x) : ItSh x := by
  obtain ⟨h1, _⟩ := h
  exact ⟨by omega, by omega, by omega⟩
theorem ItFew.line {x : It} (h : ItFew x) : (lineB (roOf x)).size ≤ 1000047 := line_size (r := roOf x) h.2.1 h.2.2 h.1
theorem bytes_len (s : ByteArray) : s.data.toList.length = s.size := by simp
theorem lines_next {l : List It} {k : Nat} {x : It} (h : l[k]? = some x) : linesB ((l.take (k + 1)).map roOf) = linesB ((l.take k).map roOf) ++ (lineB (roOf x) ++ nlB) := by
  rw [List.take_add_one, h, List.map_append]
  exact text_snoc _ _
theorem lines_few {l : List It} (h : ∀ x ∈ l, ItFew x) (hn : l.length ≤ 1000) (k : Nat) : (linesB ((l.take k).map roOf)).size ≤ 1000048000 := by
  have h1 := text_size (l := (l.take k).map roOf) (n := 1000047) (fun r hr => by
    obtain ⟨x, hx, rfl⟩ := List.mem_map.1 hr
    exact (h x (List.mem_of_mem_take hx)).line)
  have h2 : ((l.take k).map roOf).length ≤ 1000 := by
    rw [List.length_map, List.length_take]; omega
  have h3 := Nat.mul_le_mul_right (1000047 + 1) h2
  omega
/-- What lies in a builder: the first k lines. -/
def BdAt (b : Nat) (l : List It) (k : Nat) (w : World) : Prop := IsB b b (linesB ((l.take k).map roOf)).data.toList w

set_option maxHeartbeats 8000000 in
set_option maxRecDepth 100000 in
theorem fprint_any (w : World) (B : Nat) (A : Option Addr) (l : List It) (n c : Nat) (hn : l.length = n) (hl : RowIn w B 7 A n (l.flatMap itC)) (hB : B ≤ w.heap.size) (hb : n ≤ 1000) (hsz : ∀ x ∈ l, ItFew x) (hg : GlobAt w) (ht : TabAt w) :
    Calls Tryz.prog 14 #[.slice A n c] w fun e w' => e = .returned (.string (printB (l.map roOf))) ∧ Below w.heap.size w w' := by
  have HN := Lib.hid hn
  have HL := Lib.hid hl
  have HSZ := Lib.hid hsz
  have HT := Lib.hid ht
  have HRW := Lib.hid (rows_any w B A l n c hn hl hB hb (fun x hx => (hsz x hx).sh) hg)
  have HFW : Hid (∀ k, (linesB ((l.take k).map roOf)).size ≤ 1000048000) := Lib.hid (fun k => lines_few hsz (by omega) k)
  clear hn hl hsz hg ht
  go_enter Tryz.func14, Tryz.ntmps14
  go_wp2_with fail
  refine HRW.out.mono ?_
  rintro e w2 ⟨v, rfl, hpost, hb2⟩
  have HB2 := Lib.hid hb2
  clear hb2 hpost HRW
  cases hok : okI l
  · have HOK : Hid (printB (l.map roOf) = ⟨#[]⟩) := Lib.hid (by unfold printB; rw [if_neg]; intro h; unfold okI at hok; rw [h] at hok; cases hok)
    clear hok
    go_wp2_with fail
    go_ret
    exact ⟨congrArg (fun s => Ending.returned (Value.string s)) HOK.out.symm, HB2.out⟩
  have HOK : Hid (printB (l.map roOf) = linesB (l.map roOf)) := Lib.hid (by unfold printB; rw [if_pos]; exact hok)
  clear hok
  obtain ⟨w3, hw3⟩ : ∃ w3, w2.alloc (.cells #[.pointer none, .slice none 0 0] 95) = w3 := ⟨_, rfl⟩
  have HI3 : Hid (BdAt w2.heap.size l 0 w3) := Lib.hid (by rw [← hw3]; exact IsB.fresh w2)
  have HB3 : Hid (Below w.heap.size w w3) := Lib.hid (by rw [← hw3]; exact HB2.out.alloc HB2.out.size _)
  have HZB : Hid (w.heap.size ≤ w2.heap.size) := Lib.hid HB2.out.size
  have HZ3 : Hid (w2.heap.size < w3.heap.size) := Lib.hid (by rw [← hw3]; simp)
  go_wp2_with fail
  clear hw3
  go_loopw [17] (fun i wr => ∃ k : Nat, k ≤ n ∧ i = .int .i64 k ∧ Hid (BdAt w2.heap.size l k wr) ∧ Hid (w2.heap.size < wr.heap.size) ∧ Hid (Below w.heap.size w wr)) (fun i _ => n - (intOf i).toNat)
  case atStart => exact ⟨0, Nat.zero_le _, rfl, HI3, HZ3, HB3⟩
  case round =>
    clear HI3 HB3 HZ3
    obtain ⟨k, hk, rfl, hbd, hbz, hbw⟩ := hrel
    have hwz := hbw.out.size
    by_cases hlt : k < n
    · obtain ⟨x, hx⟩ : ∃ x, l[k]? = some x := ⟨l[k]'(by rw [HN.out]; exact hlt), List.getElem?_eq_getElem _⟩
      have HX := Lib.hid hx
      obtain ⟨g, o, rfl, hgB, hc⟩ := it_at HL.out (by omega)
      have hkeep := fun j => hbw.out.cell (p := ⟨g, j, none⟩) (by show g < _; omega)
      obtain ⟨e0, e1, e2, e3, e4, e5, e6⟩ := hc k x hx
      have f0 := (hkeep _).trans e0
      have f1 := (hkeep _).trans e1
      have f2 := (hkeep _).trans e2
      have f3 := (hkeep _).trans e3
      have f4 := (hkeep _).trans e4
      have f5 := (hkeep _).trans e5
      have f6 := (hkeep _).trans e6
      have HXF := Lib.hid (HSZ.out x (List.mem_of_getElem? hx))
      have HLS : Hid ((lineB (roOf x)).size ≤ 1000047) := Lib.hid HXF.out.line
      have HFK := Lib.hid (HFW.out k)
      have hk8 : (k : Int) < (n : Int) := by omega
      have hk9 : (0 : Int) ≤ (k : Int) := by omega
      obtain ⟨w4, hw4⟩ : ∃ w4, wr.alloc (.cells #[.string x.name, .string x.maker, .string x.tags, .int .i64 x.stock, .int .i64 x.price, .int .i64 x.born, .bool x.listed] 47) = w4 := ⟨_, rfl⟩
      have HK4 : Hid (Blk w4 wr.heap.size 47 #[.string x.name, .string x.maker, .string x.tags, .int .i64 x.stock, .int .i64 x.price, .int .i64 x.born, .bool x.listed]) := Lib.hid (by rw [← hw4]; exact Blk.new _ _ _)
      have HBR : Hid (Below wr.heap.size wr w4) := Lib.hid (by rw [← hw4]; exact (Below.refl _ _).alloc (Nat.le_refl _) _)
      have b0 : w4.cell? ⟨wr.heap.size, 0, none⟩ = some (.string x.name) := HK4.out.cell 0
      have b1 : w4.cell? ⟨wr.heap.size, 1, none⟩ = some (.string x.maker) := HK4.out.cell 1
      have b2 : w4.cell? ⟨wr.heap.size, 2, none⟩ = some (.string x.tags) := HK4.out.cell 2
      have b3 : w4.cell? ⟨wr.heap.size, 3, none⟩ = some (.int .i64 x.stock) := HK4.out.cell 3
      have b4 : w4.cell? ⟨wr.heap.size, 4, none⟩ = some (.int .i64 x.price) := HK4.out.cell 4
      have b5 : w4.cell? ⟨wr.heap.size, 5, none⟩ = some (.int .i64 x.born) := HK4.out.cell 5
      have b6 : w4.cell? ⟨wr.heap.size, 6, none⟩ = some (.bool x.listed) := HK4.out.cell 6
      have HB4 : Hid (Below w.heap.size w w4) := Lib.hid (hbw.out.trans (HBR.out.mono hwz))
      have HBD4 : Hid (BdAt w2.heap.size l k w4) := Lib.hid (IsB.old hbd.out HBR.out)
      have HLN := Lib.hid (by have h := line_any x w4 HXF.out.1 HXF.out.2.1 HXF.out.2.2 (HT.out.keep HB4.out); unfold itA at h; exact h)
      have HZ4 : Hid (w2.heap.size < w4.heap.size) := Lib.hid (Nat.lt_of_lt_of_le hbz.out HBR.out.size)
      clear e0 e1 e2 e3 e4 e5 e6 hc hkeep hx
      go_wp2_with fail
      clear hw4 b0 b1 b2 b3 b4 b5 b6 f0 f1 f2 f3 f4 f5 f6
      refine HLN.out.mono ?_
      rintro e w5 ⟨rfl, hb5⟩
      have HB5 : Hid (Below w.heap.size w w5) := Lib.hid (HB4.out.trans (hb5.mono HB4.out.size))
      have HZ5 : Hid (w2.heap.size < w5.heap.size) := Lib.hid (Nat.lt_of_lt_of_le HZ4.out hb5.size)
      have HBD5 : Hid (BdAt w2.heap.size l k w5) := Lib.hid (IsB.old HBD4.out hb5)
      have HWS := Lib.hid (wstr_any w2.heap.size w2.heap.size _ (lineB (roOf x)) w5 HBD5.out (by rw [bytes_len]; have := HFK.out; have := HLS.out; omega) (Nat.le_of_lt HZ5.out))
      clear hb5 HLN
      go_wp2_with fail
      refine HWS.out.mono ?_
      rintro e w6 ⟨rfl, hi6, hb6⟩
      have HI6 := Lib.hid hi6
      have HB6 : Hid (Below w.heap.size w w6) := Lib.hid (HB5.out.trans (hb6.mono HZB.out))
      have HZ6 : Hid (w2.heap.size < w6.heap.size) := Lib.hid (by
        have := hb6.size
        have := HI6.out.elim (fun q => q.lt) (fun q => q.lt)
        exact this)
      have HWB := Lib.hid (wbyte_any w2.heap.size w2.heap.size _ 10 w6 HI6.out (by rw [List.length_append, bytes_len, bytes_len]; have := HFK.out; have := HLS.out; omega) (Nat.le_of_lt HZ6.out))
      clear hb6 HWS hi6
      go_wp2_with fail
      refine HWB.out.mono ?_
      rintro e w7 ⟨rfl, hi7, hb7⟩
      have HB7 : Hid (Below w.heap.size w w7) := Lib.hid (HB6.out.trans (hb7.mono HZB.out))
      have HI7 : Hid (BdAt w2.heap.size l (k + 1) w7) := Lib.hid (by
        unfold BdAt
        rw [lines_next HX.out]
        have e : (linesB ((l.take k).map roOf) ++ (lineB (roOf x) ++ nlB)).data.toList = (linesB ((l.take k).map roOf)).data.toList ++ (lineB (roOf x)).data.toList ++ [10] := by
          simp [ByteArray.data_append, nlB]
        rw [e]
        exact hi7)
      have HZ7 : Hid (w2.heap.size < w7.heap.size) := Lib.hid (HI7.out.elim (fun q => q.lt) (fun q => q.lt))
      clear hb7 HWB hi7
      go_wp2_with fail
      go_roundw
      case rel => exact ⟨k + 1, by omega, by go_num, HI7, HZ7, HB7⟩
      case measure => simp [intOf]; omega
    · obtain rfl : n = k := by omega
      have htl : l.take n = l := by rw [← HN.out, List.take_length]
      unfold BdAt at hbd
      rw [htl] at hbd
      clear htl
      have HST := Lib.hid (bstring_any w2.heap.size w2.heap.size _ wr hbd.out (Nat.le_of_lt hbz.out))
      go_wp2_with fail
      refine HST.out.mono ?_
      rintro e w5 ⟨rfl, hb5⟩
      have HB5 : Hid (Below w.heap.size w w5) := Lib.hid (hbw.out.trans (hb5.mono HZB.out))
      clear hb5 HST
      go_wp2_with fail
      go_ret
      exact ⟨congrArg (fun s => Ending.returned (Value.string s)) HOK.out.symm, HB5.out⟩

end Go.Proofs.YtdcinodbgbkobaaGreatDoor
