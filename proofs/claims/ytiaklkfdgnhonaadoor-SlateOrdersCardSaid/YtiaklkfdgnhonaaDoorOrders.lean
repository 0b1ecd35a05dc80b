/- SlateOrders: the walk. -/
import Derived.Test.YtiaklkfdgnhonaaDoorLeft
import Derived.IntWalk
namespace Go.Proofs.YtiaklkfdgnhonaaDoor
open Go.Shelf Go.RowKit Go.Lib Go.Sort Go.Maps
set_option linter.unusedVariables false

/-- Turned round, and told twice, as far as k. -/
def turn (l : List Ch) : Nat → List Ch
  | 0 => []
  | k + 1 => turn l k ++ ((l[l.length - 1 - k]?).toList ++ (l[k]?).toList)
theorem turn_mem (l : List Ch) : ∀ k, k ≤ l.length → ∀ x, x ∈ turn l k → x ∈ l
  | 0, _, x, h => by cases h
  | k + 1, hk, x, h => by
    unfold turn at h
    rcases List.mem_append.1 h with h | h
    · exact turn_mem l k (by omega) x h
    · rcases List.mem_append.1 h with h | h
      · exact List.mem_of_getElem? (Option.mem_toList.1 h)
      · exact List.mem_of_getElem? (Option.mem_toList.1 h)
theorem turn_all (l : List Ch) : ∀ k, ∀ j, j < k → ∀ x, l[j]? = some x → x ∈ turn l k
  | 0, j, hj, x, h => by omega
  | k + 1, j, hj, x, h => by
    unfold turn
    by_cases e : j = k
    · subst e
      exact List.mem_append.2 (Or.inr (List.mem_append.2 (Or.inr (by rw [h]; simp))))
    · exact List.mem_append.2 (Or.inl (turn_all l k j (by omega) x h))
theorem turn_same (l : List Ch) (x : Ch) : x ∈ turn l l.length ↔ x ∈ l := by
  constructor
  · exact turn_mem l l.length (Nat.le_refl _) x
  · intro h
    obtain ⟨j, hj⟩ := List.mem_iff_getElem?.1 h
    exact turn_all l l.length j (List.getElem?_eq_some_iff.1 hj).1 x hj
theorem turn_len (l : List Ch) : ∀ k, k ≤ l.length → (turn l k).length = 2 * k
  | 0, _ => rfl
  | k + 1, hk => by
    unfold turn
    rw [List.length_append, turn_len l k (by omega), List.getElem?_eq_getElem (by omega), List.getElem?_eq_getElem (by omega)]
    simp; omega
theorem turn_okc {l : List Ch} (h : Okc l) : Okc (turn l l.length) := fun x hx => h x ((turn_same l x).1 hx)
theorem turn_step {l : List Ch} {k : Nat} {x y : Ch} (hx : l[l.length - 1 - k]? = some x) (hy : l[k]? = some y) : turn l (k + 1) = (turn l k ++ [x]) ++ [y] := by
  show turn l k ++ ((l[l.length - 1 - k]?).toList ++ (l[k]?).toList) = _
  rw [hx, hy]; simp

/-- A row of two choices, just made. -/
theorem two_row (w : World) (x y : Ch) (t : TypeId) : RowIn (w.alloc (.cells #[.string x.item, .string x.maker, .string x.tags, .int .i64 x.score, .string y.item, .string y.maker, .string y.tags, .int .i64 y.score] t)) (w.heap.size + 1) 4 (some ⟨w.heap.size, 0, none⟩) 2 (chC x ++ chC y) := by
  refine ⟨rfl, Or.inr ⟨w.heap.size, 0, rfl, by omega, fun j u hu => ?_⟩⟩
  rw [(Blk.new w t _).cell]
  rw [← hu, Nat.zero_add]
  simp [chC]
theorem two_one (x y : Ch) : ∀ u ∈ chC x ++ chC y, u.oneCell' = true := fun u hu => chC_one [x, y] u (by simpa using hu)
theorem own_snoc3 {w : World} {base e : Nat} {v : Value} {nx : List Ch} {x z : Ch} (h : w.ownsRow base e 4 v (nx.length + 2) (nx.flatMap chC ++ (chC x ++ chC z))) : w.ownsRow base e 4 v ((nx ++ [x]) ++ [z]).length (((nx ++ [x]) ++ [z]).flatMap chC) :=
  own_snoc2 (by rw [List.append_assoc]; exact h)

set_option maxHeartbeats 2000000 in
set_option maxRecDepth 100000 in
theorem slateOrders_walk (A : Option Addr) (n c : Nat) (l : List Ch) (cp : Cp) (more : Int) (w : World) (ha : ChArg w A n c l) (hmo : (Lit.int .u8 more).wf = true) (hg : GlobAt w) :
    Calls Tryd.prog 6 #[.slice A n c, .agg #[.int .i64 cp.size, .int .i64 cp.maker, .int .i64 cp.tag], .int .u8 more] w fun e w' => e = .returned (.bool true) ∧ Below w.heap.size w w' := by
  obtain ⟨i0, hi0, hz0, hz1, hz2⟩ := info_parts ch_info
  obtain ⟨hm0, hm1⟩ : 0 ≤ more ∧ more ≤ 255 := by
    have h : (decide (IntKind.u8.min ≤ more) && decide (more ≤ IntKind.u8.max)) = true := hmo
    rw [show IntKind.u8.min = 0 from rfl, show IntKind.u8.max = 255 from rfl] at h
    simpa using h
  have HA := Lib.hid ha
  have HG := Lib.hid hg
  clear ha hg hmo
  obtain ⟨w0, hw0⟩ : ∃ w0, w.alloc (.cells #[.int .i64 cp.size, .int .i64 cp.maker, .int .i64 cp.tag] 28) = w0 := ⟨_, rfl⟩
  have hb0 : Below w.heap.size w w0 := by rw [← hw0]; exact (Below.refl _ _).alloc (Nat.le_refl _) _
  have bc : Blk w0 w.heap.size 28 #[.int .i64 cp.size, .int .i64 cp.maker, .int .i64 cp.tag] := by rw [← hw0]; exact Blk.new _ _ _
  have hl0 : ChsAt w0 w.heap.size A l := HA.out.at_.below hb0
  have HLG := Lib.hid (long_any w0 w.heap.size A l n c HA.out.len hl0 hb0.size HA.out.few HA.out.size)
  have hz0 := bc.lt
  have HC0 := Lib.hid bc
  clear bc
  go_enter Tryd.func6, Tryd.ntmps6
  go_wp2_with fail
  clear hw0
  refine HLG.out.mono ?_
  rintro e w1 ⟨r, rfl, hr, hb1'⟩
  have hb1 : Below w.heap.size w w1 := hb0.trans (hb1'.mono hb0.size)
  have bc1 : Blk w1 w.heap.size 28 #[.int .i64 cp.size, .int .i64 cp.maker, .int .i64 cp.tag] := (hb1'.block _ hz0).trans HC0.out
  have hl1 : ChsAt w1 w.heap.size A l := hl0.below (hb1'.mono hb0.size)
  have q0 : w1.cell? ⟨w.heap.size, 0, none⟩ = some (.int .i64 cp.size) := bc1.cell 0
  have HC1 := Lib.hid bc1
  have HW := Lib.hid (awake_any w1 (HG.out.keep hb1 (Nat.le_refl _)))
  have zc := bc1.lt
  clear HLG HC0 hb1' hb0 hl0 bc1 hz0
  cases r
  · by_cases hbig : 1000 < cp.size
    · have hd : decide (1000 < cp.size) = true := decide_eq_true hbig
      go_wp2_with fail
      refine HW.out.mono ?_
      rintro e w5 ⟨rfl, hb5⟩
      have HB5 : Hid (Below w.heap.size w w5) := Lib.hid (hb1.trans (hb5.mono hb1.size))
      clear hb5 HW
      go_wp2_with fail
      go_ret
      exact ⟨rfl, HB5.out⟩
    · have hd : decide (1000 < cp.size) = false := decide_eq_false hbig
      have hs := hr rfl
      have hn40 : n ≤ 40 := by rw [← HA.out.len]; exact hs.1
      have HOK := Lib.hid hs.okc
      have HL1 := Lib.hid hl1
      clear hr hs HW hl1
      go_wp2_with fail
      go_loopw [7, 21] (fun mv iv wr => ∃ (k : Nat), k ≤ n ∧ iv = .int .i64 k ∧ Hid (wr.ownsRow w1.heap.size 32 4 mv (2 * k) ((turn l k).flatMap chC)) ∧ Hid (Below w1.heap.size w1 wr)) (fun _ iv _ => n - (intOf iv).toNat)
      case atStart => exact ⟨0, Nat.zero_le _, rfl, Lib.hid (own_nil _ _ _ _), Lib.hid (Below.refl _ _)⟩
      case round =>
        obtain ⟨k, hk, rfl, hrow, hbw⟩ := hrel
        obtain ⟨A7, c7, hr7⟩ := own_shape hrow.out
        rw [hr7] at hrow ⊢
        clear hr7
        have zw := hbw.out.size
        by_cases hkl : k < n
        · have hlen := HA.out.len
          obtain ⟨x, hx⟩ : ∃ x, l[l.length - 1 - k]? = some x := ⟨l[l.length - 1 - k]'(by omega), List.getElem?_eq_getElem _⟩
          obtain ⟨y, hy⟩ : ∃ y, l[k]? = some y := ⟨l[k]'(by omega), List.getElem?_eq_getElem _⟩
          have HT := Lib.hid (turn_step hx hy)
          rw [hlen] at hx
          obtain ⟨i, hi⟩ : ∃ i : Nat, n - 1 - k = i := ⟨_, rfl⟩
          rw [hi] at hx
          have hq : (n : Int) - 1 - (k : Int) = (i : Int) := by omega
          obtain ⟨b, off, hA, hbB, hcl⟩ := HL1.out.at (by omega)
          subst hA
          have zb1 := hb1.size
          obtain ⟨e0, e1, e2, e3⟩ : ChAt wr b (off + i * 4) x := (hcl _ x hx).keep (fun j => hbw.out.cell (p := ⟨b, j, none⟩) (by show b < w1.heap.size; omega))
          obtain ⟨f0, f1, f2, f3⟩ : ChAt wr b (off + k * 4) y := (hcl _ y hy).keep (fun j => hbw.out.cell (p := ⟨b, j, none⟩) (by show b < w1.heap.size; omega))
          have hk8 : (k : Int) < (n : Int) := by omega
          have hk9 : (0 : Int) ≤ (k : Int) := by omega
          have hi1 : (0 : Int) ≤ (i : Int) := by omega
          have hi2 : (i : Int) < (n : Int) := by omega
          have P1 : Hid (2 * k + 2 ≤ maxLen) := Lib.hid (by unfold maxLen; omega)
          have P2 : Hid ((2 * k + 2) * 56 ≤ 140737488355328) := Lib.hid (by omega)
          have P3 : Hid (w1.heap.size ≤ (wr.alloc (.cells #[.string x.item, .string x.maker, .string x.tags, .int .i64 x.score, .string y.item, .string y.maker, .string y.tags, .int .i64 y.score] 32)).heap.size) := Lib.hid (by simp; omega)
          have P4 : Hid (b < wr.heap.size + 1) := Lib.hid (by omega)
          have P5 : Hid (some b ≠ (Value.slice A7 (2 * k) c7).ownBlock) := Lib.hid (fun e => by have := (hrow.out.lt _ e.symm).1; omega)
          have hw1 : IntKind.i64.wrap ((n : Int) - 1) = (n : Int) - 1 := IntWalk.i64_in _ (by omega)
          have hw2 : IntKind.i64.wrap (i : Int) = (i : Int) := IntWalk.i64_in _ (by omega)
          clear hcl hx hy hlen hi
          go_wp2_with fail
          go_region_held3 (fun W => W.cell? ⟨b, off + i * 4, none⟩ = some (.string x.item) ∧ W.cell? ⟨b, off + i * 4 + 1, none⟩ = some (.string x.maker) ∧ W.cell? ⟨b, off + i * 4 + 2, none⟩ = some (.string x.tags) ∧ W.cell? ⟨b, off + i * 4 + 3, none⟩ = some (.int .i64 x.score) ∧
              W.cell? ⟨b, off + k * 4, none⟩ = some (.string y.item) ∧ W.cell? ⟨b, off + k * 4 + 1, none⟩ = some (.string y.maker) ∧ W.cell? ⟨b, off + k * 4 + 2, none⟩ = some (.string y.tags) ∧ W.cell? ⟨b, off + k * 4 + 3, none⟩ = some (.int .i64 y.score))
            (first | go_keep | (go_split_ands; refine ⟨?_, ?_, ?_, ?_, ?_, ?_, ?_, ?_⟩ <;> ((rw [hg8.cell_far _ (by simpa using P4.out) P5.out]); assumption)))
            ((refine step_append_row _ (by rfl) (.tmp 24) (.tmp 37) 22 (by rfl) w1.heap.size 32 i0 _ 4 56 Tryd.underlying22 hi0 hz0 hz1 hz2 rfl (by decide) (.slice A7 (2 * k) c7) (2 * k) _ (by rfl) ((hrow.out.alloc _).drew) (wr.heap.size + 1) (some ⟨wr.heap.size, 0, none⟩) 2 2 (chC x ++ chC y) (by rfl) (two_row wr x y _) (fun h => by cases h) (two_one x y) P1.out P2.out P3.out ?_; intro v8 w8 ho8 hg8 hv8))
          clear hw1 hw2 hq
          go_wp2_with fail
          go_roundw
          case rel =>
            have kk : Kept (fun q => w1.heap.size ≤ q) w1 w8 := (((⟨hbw.out.os, hbw.out.tape, hbw.out.output, hbw.out.size, fun i hi _ => hbw.out.block i hi⟩ : Kept (fun q => w1.heap.size ≤ q) w1 wr).alloc _).drew).grown hg8 (fun j hj => Or.inl (hrow.out.lt _ hj).1)
            refine ⟨k + 1, by omega, by go_num, Lib.hid ?_, Lib.hid (kk.toBelow (fun i hi => hi) (Nat.le_refl _))⟩
            rw [HT.out, List.append_assoc, List.flatMap_append]
            have h2 : ([x] ++ [y]).flatMap chC = chC x ++ chC y := by simp
            rw [h2]
            exact ho8
          case measure => simp [intOf]; omega
        · obtain rfl : n = k := by omega
          have zb1 := hb1.size
          have hlw : ChsAt wr w.heap.size A l := HL1.out.below (hbw.out.mono zb1)
          have HBw : Hid (Below w.heap.size w wr) := Lib.hid (hb1.trans (hbw.out.mono zb1))
          have bcw : Blk wr w.heap.size 28 #[.int .i64 cp.size, .int .i64 cp.maker, .int .i64 cp.tag] := (hbw.out.block _ zc).trans HC1.out
          have c0 : wr.cell? ⟨w.heap.size, 0, none⟩ = some (.int .i64 cp.size) := bcw.cell 0
          have c1 : wr.cell? ⟨w.heap.size, 1, none⟩ = some (.int .i64 cp.maker) := bcw.cell 1
          have c2 : wr.cell? ⟨w.heap.size, 2, none⟩ = some (.int .i64 cp.tag) := bcw.cell 2
          have HCW := Lib.hid bcw
          have HM := Lib.hid (make_any wr w.heap.size A l n c cp HA.out.len hlw HBw.out.size HA.out.nil (by omega) HOK.out (HG.out.keep HBw.out (Nat.le_refl _)))
          clear bcw q0
          go_wp2_with fail
          refine HM.out.mono ?_
          rintro e w2 ⟨v2, rfl, hown2, hb2⟩
          obtain ⟨A2, k2, rfl⟩ := own_shape hown2
          have z2 := hb2.size
          have HB2 : Hid (Below w.heap.size w w2) := Lib.hid (HBw.out.trans (hb2.mono HBw.out.size))
          have bc2 : Blk w2 w.heap.size 28 #[.int .i64 cp.size, .int .i64 cp.maker, .int .i64 cp.tag] := (hb2.block _ HCW.out.lt).trans HCW.out
          have HCW2 := Lib.hid bc2
          have d0 : w2.cell? ⟨w.heap.size, 0, none⟩ = some (.int .i64 cp.size) := bc2.cell 0
          have d1 : w2.cell? ⟨w.heap.size, 1, none⟩ = some (.int .i64 cp.maker) := bc2.cell 1
          have d2 : w2.cell? ⟨w.heap.size, 2, none⟩ = some (.int .i64 cp.tag) := bc2.cell 2
          have htl : (turn l n).length = 2 * n := turn_len l n (by rw [HA.out.len]; exact Nat.le_refl _)
          have htw : ChsAt w2 wr.heap.size (A7) (turn l n) := by
            have h1 := RowIn.below (RowIn.of_own hrow.out) hb2
            unfold ChsAt
            rw [htl]; exact h1
          have HOT : Hid (Okc (turn l n)) := Lib.hid (by have := turn_okc HOK.out; rwa [HA.out.len] at this)
          have hn7 : A7 = none → c7 = 0 := fun h => by
            rcases hrow.out.2 with ⟨h1, _⟩ | ⟨g, cap, cur, h1, _⟩
            · injection h1
            · subst h; injection h1 with h1; cases h1
          have HM2 := Lib.hid (make_any w2 wr.heap.size A7 (turn l n) (2 * n) c7 cp htl htw z2 hn7 (by omega) HOT.out (HG.out.keep HB2.out (Nat.le_refl _)))
          have HSAME : Hid (makeP cp (turn l n) = makeP cp l) := Lib.hid (make_same (fun x => by have := turn_same l x; rwa [HA.out.len] at this))
          have hml : (makeP cp l).length ≤ n := by rw [← HA.out.len]; exact makeP_len cp l
          rw [HSAME.out] at HM2
          clear HM htw bc2 HSAME c0 c1 c2
          go_wp2_with fail
          refine HM2.out.mono ?_
          rintro e w3 ⟨v3, rfl, hown3, hb3⟩
          obtain ⟨A3, k3, rfl⟩ := own_shape hown3
          have z3 := hb3.size
          have hown2' : w3.ownsRow wr.heap.size 32 4 (.slice A2 (makeP cp l).length k2) (makeP cp l).length ((makeP cp l).flatMap chC) := owns_kept hown2 (below_kept (S := fun _ => False) hb3 (Nat.le_refl _)) (fun _ _ h => h)
          have HSM := Lib.hid (same_any w3 w3.heap.size A3 A2 (makeP cp l) (makeP cp l) (makeP cp l).length (makeP cp l).length k3 k2 rfl rfl (RowIn.of_own hown3) (RowIn.of_own hown2') (by omega) (by omega))
          have HB3 : Hid (Below w.heap.size w w3) := Lib.hid (HB2.out.trans (hb3.mono HB2.out.size))
          have HO2 := Lib.hid hown2'
          have bc3 : Blk w3 w.heap.size 28 #[.int .i64 cp.size, .int .i64 cp.maker, .int .i64 cp.tag] := (hb3.block _ HCW2.out.lt).trans HCW2.out
          have HCW3 := Lib.hid bc3
          clear HM2 hown2 hown3 hown2' bc3 d0 d1 d2
          go_wp2_with fail
          refine HSM.out.mono ?_
          rintro e w4 ⟨r, rfl, hr, q, rfl⟩
          obtain rfl : r = true := (by simpa using hr)
          obtain ⟨mx, hmx⟩ : ∃ mx : Int, max cp.size 0 = mx := ⟨_, rfl⟩
          have hx0 : 0 ≤ mx := by omega
          have hx1 : mx ≤ 1000 := by omega
          have HX2 : Hid (cp.size ≤ mx + more) := Lib.hid (by omega)
          have b0 : w3.cell? ⟨w.heap.size, 0, none⟩ = some (.int .i64 cp.size) := HCW3.out.cell 0
          have b1 : w3.cell? ⟨w.heap.size, 1, none⟩ = some (.int .i64 cp.maker) := HCW3.out.cell 1
          have b2 : w3.cell? ⟨w.heap.size, 2, none⟩ = some (.int .i64 cp.tag) := HCW3.out.cell 2
          have bf : w3.frozen? ⟨w.heap.size, 0, none⟩ = false := HCW3.out.frozen 0
          clear HSM hr
          go_wp2_with fail
          obtain ⟨w5, hw5⟩ : ∃ w5, (w3.drewN q).setCell ⟨w.heap.size, 0, none⟩ (.int .i64 (mx + more)) = w5 := ⟨_, rfl⟩
          have hk5 : Kept (fun i => i = w.heap.size) w3 w5 := by rw [← hw5]; exact Kept.setCell (S := fun i => i = w.heap.size) (p := ⟨w.heap.size, 0, none⟩) ((Kept.refl _ w3).drewN q) (Or.inl rfl) _
          have HB5 : Hid (Below w.heap.size w w5) := Lib.hid (Kept.toBelow (S := fun i => i = w.heap.size) (Kept.trans ⟨HB3.out.os, HB3.out.tape, HB3.out.output, HB3.out.size, fun i hi _ => HB3.out.block i hi⟩ hk5) (fun i hi => by omega) (Nat.le_refl _))
          have hl5 : ChsAt w5 w.heap.size A l := HA.out.at_.below HB5.out
          have zw := HBw.out.size
          have zww : w.heap.size < wr.heap.size := by have := hbw.out.size; omega
          have hown5 : w5.ownsRow wr.heap.size 32 4 (.slice A2 (makeP cp l).length k2) (makeP cp l).length ((makeP cp l).flatMap chC) := owns_kept HO2.out hk5 (fun g hg e => by have := (HO2.out.lt _ hg).1; omega)
          have HM5 := Lib.hid (make_any w5 w.heap.size A l n c ⟨mx + more, cp.maker, cp.tag⟩ HA.out.len hl5 HB5.out.size HA.out.nil (by omega) HOK.out (HG.out.keep HB5.out (Nat.le_refl _)))
          have hmo : ∃ qq, makeP ⟨mx + more, cp.maker, cp.tag⟩ l = makeP cp l ++ qq := make_more (c := cp) (c' := ⟨mx + more, cp.maker, cp.tag⟩) HX2.out rfl rfl l
          have HMO := Lib.hid hmo
          have hgl : (makeP ⟨mx + more, cp.maker, cp.tag⟩ l).length ≤ n := by rw [← HA.out.len]; exact makeP_len _ l
          have hge : (makeP cp l).length ≤ (makeP ⟨mx + more, cp.maker, cp.tag⟩ l).length := by obtain ⟨qq, h⟩ := hmo; rw [h, List.length_append]; omega
          have HO5 := Lib.hid hown5
          rw [hw5]
          clear hw5 hmo hown5 b0 b1 b2 bf hk5 hl5
          refine HM5.out.mono ?_
          rintro e w6 ⟨v6, rfl, hown6, hb6⟩
          obtain ⟨A6, k6, rfl⟩ := own_shape hown6
          have hcap6 := own_cap hown6
          have HB6 : Hid (Below w.heap.size w w6) := Lib.hid (HB5.out.trans (hb6.mono HB5.out.size))
          have ho5 : ChsAt w6 w6.heap.size A2 (makeP cp l) := RowIn.more (RowIn.below (RowIn.of_own HO5.out) hb6) hb6.size
          have ho6 : ChsAt w6 w6.heap.size A6 (makeP cp l) := by
            have h1 := own_front hown6 rfl hge
            obtain ⟨qq, h⟩ := HMO.out
            rw [h] at h1
            simpa using h1
          have HSM := Lib.hid (same_any w6 w6.heap.size A6 A2 (makeP cp l) (makeP cp l) (makeP cp l).length (makeP cp l).length k6 k2 rfl rfl ho6 ho5 (by omega) (by omega))
          generalize (makeP ⟨mx + more, cp.maker, cp.tag⟩ l).length = gn at *
          generalize makeP cp l = S at *
          have y1 : (S.length : Int) ≤ (k6 : Int) := by omega
          have y2 : (0 : Int) ≤ (S.length : Int) := by omega
          have y3 : decide (S.length ≤ gn) = true := decide_eq_true hge
          clear HM5 hown6 ho5 ho6
          go_wp2_with fail
          refine HSM.out.mono ?_
          rintro e w7 ⟨r, rfl, hr, q2, rfl⟩
          obtain rfl : r = true := (by simpa using hr)
          have HW := Lib.hid (awake_any (w6.drewN q2) ((HG.out.keep HB6.out (Nat.le_refl _)).drewN q2))
          clear HSM hr
          go_wp2_with fail
          refine HW.out.mono ?_
          rintro e w8 ⟨rfl, hb8⟩
          have HB8 : Hid (Below w.heap.size w w8) := Lib.hid ((below_drewN HB6.out q2).trans (hb8.mono HB6.out.size))
          clear hb8 HW
          go_wp2_with fail
          go_ret
          exact ⟨rfl, HB8.out⟩
  · clear hr
    go_wp2_with fail
    refine HW.out.mono ?_
    rintro e w5 ⟨rfl, hb5⟩
    have HB5 : Hid (Below w.heap.size w w5) := Lib.hid (hb1.trans (hb5.mono hb1.size))
    clear hb5 HW
    go_wp2_with fail
    go_ret
    exact ⟨rfl, HB5.out⟩

end Go.Proofs.YtiaklkfdgnhonaaDoor
