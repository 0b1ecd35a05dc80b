/- RuleAtoms: the walk. -/
import Derived.Test.YtpgbgeofhcpocaaDoorRuDg
namespace Go.Proofs.YtpgbgeofhcpocaaDoor
open Go.RowKit Go.Maps Go.Shelf
set_option linter.unusedVariables false

theorem inv_num (z : Fz) {k n : Nat} {less : Bool} (hk : k < 4) {w : World} {B : Nat} {v : Value} (h : NdAt w B (.atom (.num k less n)) v) (W : World) : InvAt z (holdsN (fzX z) (.atom (.num k less n))) v W := by
  cases h with
  | atom a =>
    have e : holdsN (fzX z) (.atom (.num k less n)) = holdsL (fzX z) (.num k less n) := by rw [holdsN]
    rw [e]
    exact ⟨_, Or.inr (Or.inr (Or.inr (Or.inr (Or.inl ⟨rfl, num_holds z k less n hk W⟩))))⟩
theorem inv_done (z : Fz) {w : World} {B : Nat} {v : Value} (h : NdAt w B (.atom .done) v) (W : World) : InvAt z (holdsN (fzX z) (.atom .done)) v W := by
  cases h with
  | atom a =>
    have e : holdsN (fzX z) (.atom .done) = holdsL (fzX z) .done := by rw [holdsN]
    rw [e]
    exact ⟨_, Or.inr (Or.inr (Or.inr (Or.inr (Or.inr ⟨rfl, done_holds z W⟩))))⟩
theorem inv_follows (z : Fz) {w : World} {B : Nat} {v : Value} (h : NdAt w B (.atom .follows) v) (W : World) : InvAt z (holdsN (fzX z) (.atom .follows)) v W := by
  cases h with
  | atom a =>
    have e : holdsN (fzX z) (.atom .follows) = holdsL (fzX z) .follows := by rw [holdsN]
    rw [e]
    exact ⟨_, Or.inr (Or.inr (Or.inr (Or.inr (Or.inr ⟨rfl, follows_holds z W⟩))))⟩
theorem inv_dnf (z : Fz) {w : World} {B : Nat} {v : Value} (h : NdAt w B dnfN v) (W : World) (hW : Below w.heap.size w W) : InvAt z (holdsN (fzX z) dnfN) v W := by
  unfold dnfN at h ⊢
  cases h with
  | @row k l A m c xs hr hlm hnd =>
    obtain rfl : m = 2 := hlm.symm
    have hrW : RowV W B A 2 c xs := hr.keep hW.size (fun i hi _ => hW.block i hi)
    refine ⟨_, Or.inr (Or.inl ⟨rfl, row_both z _ B A 2 c xs W hrW rfl (by omega) (fun i n v hn hv V hV => ?_)⟩)⟩
    have h1 := hnd i n v hn hv
    match i, hn with
    | 0, hn =>
      injection hn with hn
      subst hn
      exact inv_done z h1 V
    | 1, hn =>
      injection hn with hn
      subst hn
      cases h1 with
      | no h2 => exact ⟨_, Or.inr (Or.inr (Or.inl ⟨rfl, no_holds z _ _ V (fun U _ => inv_follows z h2 U)⟩))⟩
theorem numV {k n : Nat} {less : Bool} {w : World} {B : Nat} {v : Value} (h : RuleV w B (some (some (.atom (.num k less n)))) v) : ∃ g, v = .pointer (some ⟨g, 0, none⟩) ∧ ∀ (z : Fz) (W : World), k < 4 → Below w.heap.size w W → Calls Tryd.prog 14 #[.pointer (some ⟨g, 0, none⟩), .agg (fzA z)] W (ROf (holdsN (fzX z) (.atom (.num k less n))) W) := by
  obtain ⟨hn, g, u, rfl, hg, hb, hu⟩ := h
  exact ⟨g, rfl, fun z W hk hW => Holds_some z _ g u W (hb.under hW) (fun V hV => inv_num z hk hu V)⟩
theorem dnfV {w : World} {B : Nat} {v : Value} (h : RuleV w B (some (some dnfN)) v) : ∃ g, v = .pointer (some ⟨g, 0, none⟩) ∧ ∀ (z : Fz) (W : World), Below w.heap.size w W → Calls Tryd.prog 14 #[.pointer (some ⟨g, 0, none⟩), .agg (fzA z)] W (ROf (holdsN (fzX z) dnfN) W) := by
  obtain ⟨hn, g, u, rfl, hg, hb, hu⟩ := h
  exact ⟨g, rfl, fun z W hW => Holds_some z _ g u W (hb.under hW) (fun V hV => inv_dnf z hu V (hW.trans (hV.mono hW.size)))⟩
def wordsA : Array Value := #[.string ⟨#[112, 114, 105, 99, 101]⟩, .string ⟨#[115, 116, 111, 99, 107]⟩, .string ⟨#[97, 103, 101]⟩, .string ⟨#[102, 97, 110, 115]⟩]
def valsA (z : Fz) : Array Value := #[.int .i64 z.price, .int .i64 z.stock, .int .i64 z.age, .int .i64 z.fans]
theorem words_at {k : Nat} (hk : k < 4) : wordsA[k]? = some (.string (whatW k)) := by
  rcases (show k = 0 ∨ k = 1 ∨ k = 2 ∨ k = 3 by omega) with rfl | rfl | rfl | rfl <;> rfl
theorem vals_at (z : Fz) {k : Nat} (hk : k < 4) : (valsA z)[k]? = some (.int .i64 ((fzX z).val k)) := by
  rcases (show k = 0 ∨ k = 1 ∨ k = 2 ∨ k = 3 by omega) with rfl | rfl | rfl | rfl <;> rfl

set_option maxHeartbeats 4000000 in
set_option maxRecDepth 100000 in
theorem ruleAtoms_go (k n : Nat) (a : Nat) (less : Bool) (z : Fz) (w : World) (hk : k < 4) (hak : a % 4 = k) (hn : n ≤ 255) (ha : a ≤ 255) (hL : LibAt w) :
    Calls Tryd.prog 7 #[.int .u8 a, .int .u8 n, .bool less, .agg #[.string z.name, .string z.maker, .string z.tags, .int .i64 z.stock, .int .i64 z.price, .int .i64 z.born, .bool z.listed, .int .i64 z.now, .int .i64 z.age, .int .i64 z.fans, .bool z.follows, .bool z.done]] w fun e w' => e = .returned (.bool true) ∧ Below w.heap.size w w' := by
  have HLB := Lib.hid hL
  obtain ⟨w1, hw1⟩ : ∃ w1, w.alloc (.cells #[.string z.name, .string z.maker, .string z.tags, .int .i64 z.stock, .int .i64 z.price, .int .i64 z.born, .bool z.listed, .int .i64 z.now, .int .i64 z.age, .int .i64 z.fans, .bool z.follows, .bool z.done] FAC) = w1 := ⟨_, rfl⟩
  obtain ⟨w2, hw2⟩ : ∃ w2, w1.alloc (.cells #[.string ⟨#[112, 114, 105, 99, 101]⟩, .string ⟨#[115, 116, 111, 99, 107]⟩, .string ⟨#[97, 103, 101]⟩, .string ⟨#[102, 97, 110, 115]⟩] 9) = w2 := ⟨_, rfl⟩
  obtain ⟨w3, hw3⟩ : ∃ w3, w2.alloc (.cells #[.int .i64 z.price, .int .i64 z.stock, .int .i64 z.age, .int .i64 z.fans] 3) = w3 := ⟨_, rfl⟩
  have k1 : Below w.heap.size w w1 := by rw [← hw1]; exact (Below.refl _ _).alloc (Nat.le_refl _) _
  have k2 : Below w1.heap.size w1 w2 := by rw [← hw2]; exact (Below.refl _ _).alloc (Nat.le_refl _) _
  have k3 : Below w2.heap.size w2 w3 := by rw [← hw3]; exact (Below.refl _ _).alloc (Nat.le_refl _) _
  have b1 : Blk w1 w.heap.size FAC (fzA z) := by rw [← hw1]; exact Blk.new _ _ _
  have HBF : Hid (Blk w2 w.heap.size FAC (fzA z)) := Lib.hid (b1.under k2)
  have HBF3 : Hid (Blk w3 w.heap.size FAC (fzA z)) := Lib.hid (HBF.out.under k3)
  have HBW : Hid (Blk w3 w1.heap.size 9 wordsA) := Lib.hid (by
    have h : Blk w2 w1.heap.size 9 wordsA := by rw [← hw2]; exact Blk.new _ _ _
    exact h.under k3)
  have HBV : Hid (Blk w3 w2.heap.size 3 (valsA z)) := Lib.hid (by rw [← hw3]; exact Blk.new _ _ _)
  have HB3 : Hid (Below w.heap.size w w3) := Lib.hid (k1.trans ((k2.trans (k3.mono k2.size)).mono k1.size))
  obtain ⟨f0, f1, f2, f3, f4, f5, f6, f7, f8, f9, f10, f11⟩ := fz_all HBF.out
  have hmod : (a : Int) % 4 = (k : Int) := by omega
  have HCW : Hid (∀ W, Below w3.heap.size w3 W → W.cell? ⟨w1.heap.size, k, none⟩ = some (.string (whatW k))) := Lib.hid (fun W hW => ((HBW.out.under hW).cell k).trans (words_at hk))
  have HCV : Hid (∀ W, Below w3.heap.size w3 W → W.cell? ⟨w2.heap.size, k, none⟩ = some (.int .i64 ((fzX z).val k))) := Lib.hid (fun W hW => ((HBV.out.under hW).cell k).trans (vals_at z hk))
  have HDG : Hid (∀ W, Calls Tryd.prog 15 #[.int .i64 n] W fun e w' => e = .returned (.string (digW n)) ∧ Below W.heap.size W w') := Lib.hid (fun W => rdigits_any n W (by omega))
  have HDZ : Hid ((digW n).size ≤ 21) := Lib.hid (digW_size (by omega))
  have HWZ : Hid ((whatW k).size ≤ 5) := Lib.hid (by rcases (show k = 0 ∨ k = 1 ∨ k = 2 ∨ k = 3 by omega) with rfl | rfl | rfl | rfl <;> decide)
  have HSY := Lib.hid (says_num less hk hn)
  have HSS : Hid ((whatW k ++ signW less ++ digW n).size ≤ 1000) := Lib.hid (by
    have h1 := HDZ.out
    have h2 := HWZ.out
    have h4 : (signW less).size = 1 := by cases less <;> rfl
    rw [ByteArray.size_append, ByteArray.size_append]
    omega)
  have HPA : Hid (∀ W, Below w.heap.size w W → Calls Tryd.prog 9 #[.string (whatW k ++ signW less ++ digW n)] W (ParseR (whatW k ++ signW less ++ digW n) W)) := Lib.hid (fun W hW => parse_any _ W (by have := HSS.out; omega) (HLB.out.below hW).all)
  have HNS := Lib.hid (num_says z k less n)
  obtain ⟨V, hV⟩ : ∃ V, (fzX z).val k = V := ⟨_, rfl⟩
  rw [hV] at HCV HNS
  obtain ⟨x, hx⟩ : ∃ x, whatW k = x := ⟨_, rfl⟩
  obtain ⟨y, hy⟩ : ∃ y, digW n = y := ⟨_, rfl⟩
  rw [hx] at HCW HWZ HPA HSY HSS
  rw [hy] at HDG HDZ HPA HSY HSS
  have hxz : x.size ≤ 5 := HWZ.out
  have hyz : y.size ≤ 21 := HDZ.out
  have hk0 : (0 : Int) ≤ (k : Int) := by omega
  have hk4 : (k : Int) < 4 := by omega
  clear hV hx hy hL k1 k2 k3 b1 hak
  cases less
  · have hsz : (x ++ ⟨#[62]⟩ : ByteArray).size = x.size + 1 := by rw [ByteArray.size_append]; rfl
    have HSG : Hid (signW false = ⟨#[62]⟩) := Lib.hid rfl
    rw [HSG.out] at HPA HSY HSS
    go_enter Tryd.func7, Tryd.ntmps7
    go_upto_region 7 with fail
    rw [hmod]
    clear hw1 hw2 hw3 f0 f1 f2 f3 f4 f5 f6 f7 f8 f9 f10 f11 hmod
    have HS0 : Hid (Below w3.heap.size w3 w3.drew) := Lib.hid (below_drew (Below.refl _ _))
    have HDG3 : Hid (∀ W, Below w3.heap.size w3 W → Calls Tryd.prog 15 #[.int .i64 n] W fun e w' => e = .returned (.string y) ∧ Below W.heap.size W w') := Lib.hid (fun W _ => HDG.out W)
    have HPA3 : Hid (∀ W, Below w3.heap.size w3 W → Calls Tryd.prog 9 #[.string (x ++ ⟨#[62]⟩ ++ y)] W (ParseR (x ++ ⟨#[62]⟩ ++ y) W)) := Lib.hid (fun W hW => HPA.out W (HB3.out.trans (hW.mono HB3.out.size)))
    refine wp_plan (fun V => Below w3.heap.size w3 V) [(0, false), (1, false), (2, false), (3, false), (4, false), (5, false), (6, false), (7, false), (8, true), (9, false), (10, true), (11, false), (12, false), (13, false), (14, false), (15, false), (16, false), (17, false)] (by kernel_rfl) (by kernel_rfl) HS0.out ?_
    simp only [planL, List.getElem?_cons_zero, List.getElem?_cons_succ]
    repeat (first | (refine plan_on _ (by rfl) (fun W hW => by (have q0 := HCW.out W hW; go_simp; try (first | with_reducible rfl | rw [if_neg (by omega)]))) ?_; simp only [Act.put, List.setIfInBounds_toArray, List.set_cons_zero, List.set_cons_succ]) | (refine plan_off (by rfl) ?_; simp only [Act.put, List.setIfInBounds_toArray, List.set_cons_zero, List.set_cons_succ]))
    refine plan_turn ?_
    have HC1 := Lib.hid (HDG3.out _ HS0.out)
    go_wp2_with fail
    refine HC1.out.mono ?_
    rintro e x1 ⟨rfl, hx⟩
    have HX1 : Hid (Below w3.heap.size w3 x1) := Lib.hid (HS0.out.trans (hx.mono HS0.out.size))
    clear hx HC1
    go_wp2_with fail
    refine ⟨HX1.out, ?_⟩
    repeat (first | (refine plan_on _ (by rfl) (fun W hW => by (have q0 := HCW.out W hW; go_simp; try (first | with_reducible rfl | rw [if_neg (by omega)]))) ?_; simp only [Act.put, List.setIfInBounds_toArray, List.set_cons_zero, List.set_cons_succ]) | (refine plan_off (by rfl) ?_; simp only [Act.put, List.setIfInBounds_toArray, List.set_cons_zero, List.set_cons_succ]))
    refine plan_turn ?_
    have HC2 := Lib.hid (HPA3.out _ HX1.out)
    go_wp2_with fail
    refine HC2.out.mono ?_
    rintro e x2 ⟨r, at_, v1, hsy, rfl, hv1, hx⟩
    have HX2 : Hid (Below w3.heap.size w3 x2) := Lib.hid (HX1.out.trans (hx.mono HX1.out.size))
    obtain ⟨rfl, rfl⟩ := hsy.det HSY.out
    have HHV := Lib.hid (numV hv1)
    have HB2' := Lib.hid hx
    clear hsy hv1 hx HC2
    simp only [errOf, Option.isNone_some]
    obtain ⟨g1, rfl, hho⟩ := HHV.out
    have HHO : Hid (∀ W, Below x2.heap.size x2 W → Calls Tryd.prog 14 #[.pointer (some ⟨g1, 0, none⟩), .agg #[.string z.name, .string z.maker, .string z.tags, .int .i64 z.stock, .int .i64 z.price, .int .i64 z.born, .bool z.listed, .int .i64 z.now, .int .i64 z.age, .int .i64 z.fans, .bool z.follows, .bool z.done]] W (ROf (holdsN (fzX z) (.atom (.num k false n))) W)) := Lib.hid (fun W hW => hho z W hk hW)
    clear hho HHV
    go_wp2_with fail
    refine ⟨HX2.out, ?_⟩
    repeat (first | (refine plan_on _ (by rfl) (fun W hW => by (have q0 := HCW.out W hW; go_simp; try (first | with_reducible rfl | rw [if_neg (by omega)]))) ?_; simp only [Act.put, List.setIfInBounds_toArray, List.set_cons_zero, List.set_cons_succ]) | (refine plan_off (by rfl) ?_; simp only [Act.put, List.setIfInBounds_toArray, List.set_cons_zero, List.set_cons_succ]))
    refine plan_done ?_
    have HBX := Lib.hid (HB3.out.trans (HX2.out.mono HB3.out.size))
    have c1 : x2.cell? ⟨w2.heap.size, k, none⟩ = some (.int .i64 V) := HCV.out x2 HX2.out
    have HP2 : Hid (Calls Tryd.prog 9 #[.string ⟨#[100, 111, 110, 101, 32, 97, 110, 100, 32, 110, 111, 116, 32, 102, 111, 108, 108, 111, 119, 115]⟩] x2 (ParseR dnfB x2)) := Lib.hid (parse_any dnfB x2 (by decide) (HLB.out.below HBX.out).all)
    have HWB : Hid (Blk x2 w.heap.size FAC (fzA z)) := Lib.hid (HBF3.out.under HX2.out)
    have HAX : Hid (∀ W, Below x2.heap.size x2 W → Calls Tryd.prog 8 #[] W fun e w' => e = .returned (.bool true) ∧ Below W.heap.size W w') := Lib.hid (fun W hW => awake_any W ((HLB.out.below HBX.out).below hW))
    have key : ∃ b, Hid (holdsN (fzX z) (.atom (.num k false n)) = b) ∧ decide ((n : Int) < V) = b := ⟨_, Lib.hid HNS.out, rfl⟩
    obtain ⟨b, HNB, hdb⟩ := key
    rw [HNB.out] at HHO
    have HDB := Lib.hid hdb
    clear HNB hdb HNS
    have hV : ((n : Int) < V ∧ b = true) ∨ (¬ (n : Int) < V ∧ b = false) := by
      by_cases h : (n : Int) < V
      · exact Or.inl ⟨h, by rw [← HDB.out]; exact decide_eq_true h⟩
      · exact Or.inr ⟨h, by rw [← HDB.out]; exact decide_eq_false h⟩
    clear HDB HSY HPA HPA3 HDG HDG3 HSS HSG hsz hxz hyz HWZ HDZ HCW HCV HS0 HX1
    rcases hV with ⟨hV, rfl⟩ | ⟨hV, rfl⟩
    · go_wp2_with fail
      refine HP2.out.mono ?_
      rintro e x3 ⟨r, at_, v1, hsy, rfl, hv1, hx⟩
      obtain ⟨rfl, rfl⟩ := hsy.det says_dnf
      have HHV := Lib.hid (dnfV hv1)
      have HB3' := Lib.hid hx
      clear hsy hv1 hx HP2 c1
      simp only [errOf, Option.isNone_some]
      obtain ⟨g2, rfl, hho⟩ := HHV.out
      have HHD : Hid (∀ W, Below x3.heap.size x3 W → Calls Tryd.prog 14 #[.pointer (some ⟨g2, 0, none⟩), .agg #[.string z.name, .string z.maker, .string z.tags, .int .i64 z.stock, .int .i64 z.price, .int .i64 z.born, .bool z.listed, .int .i64 z.now, .int .i64 z.age, .int .i64 z.fans, .bool z.follows, .bool z.done]] W (ROf (holdsN (fzX z) dnfN) W)) := Lib.hid (fun W hW => hho z W hW)
      have HHN : Hid (∀ W, Below x3.heap.size x3 W → Calls Tryd.prog 14 #[.pointer (some ⟨g1, 0, none⟩), .agg #[.string z.name, .string z.maker, .string z.tags, .int .i64 z.stock, .int .i64 z.price, .int .i64 z.born, .bool z.listed, .int .i64 z.now, .int .i64 z.age, .int .i64 z.fans, .bool z.follows, .bool z.done]] W (ROf true W)) := Lib.hid (fun W hW => HHO.out W (HB3'.out.trans (hW.mono HB3'.out.size)))
      have HAN : Hid (∀ W, Below x3.heap.size x3 W → Calls Tryd.prog 8 #[] W fun e w' => e = .returned (.bool true) ∧ Below W.heap.size W w') := Lib.hid (fun W hW => HAX.out W (HB3'.out.trans (hW.mono HB3'.out.size)))
      have HSC : Hid (∀ W, Below x3.heap.size x3 W → Blk W w.heap.size FAC (fzA z)) := Lib.hid (fun W hW => (HWB.out.under HB3'.out).under hW)
      obtain ⟨bd, hbd⟩ : ∃ b, z.done = b := ⟨_, rfl⟩
      obtain ⟨bf, hbf⟩ : ∃ b, z.follows = b := ⟨_, rfl⟩
      have HBD := Lib.hid hbd
      have HBF' := Lib.hid hbf
      have HDH : Hid (holdsN (fzX z) dnfN = (bd && !bf)) := Lib.hid (by rw [dnf_holds, ← hbd, ← hbf]; rfl)
      rw [HDH.out, hbd, hbf] at HHD
      rw [hbd, hbf] at HHN
      have HS2 : Hid (∀ W, Below x3.heap.size x3 W → W.cell? ⟨w.heap.size, 0, none⟩ = some (.string z.name) ∧ W.cell? ⟨w.heap.size, 1, none⟩ = some (.string z.maker) ∧ W.cell? ⟨w.heap.size, 2, none⟩ = some (.string z.tags) ∧ W.cell? ⟨w.heap.size, 3, none⟩ = some (.int .i64 z.stock) ∧ W.cell? ⟨w.heap.size, 4, none⟩ = some (.int .i64 z.price) ∧ W.cell? ⟨w.heap.size, 5, none⟩ = some (.int .i64 z.born) ∧ W.cell? ⟨w.heap.size, 6, none⟩ = some (.bool z.listed) ∧ W.cell? ⟨w.heap.size, 7, none⟩ = some (.int .i64 z.now) ∧ W.cell? ⟨w.heap.size, 8, none⟩ = some (.int .i64 z.age) ∧ W.cell? ⟨w.heap.size, 9, none⟩ = some (.int .i64 z.fans) ∧ W.cell? ⟨w.heap.size, 10, none⟩ = some (.bool bf) ∧ W.cell? ⟨w.heap.size, 11, none⟩ = some (.bool bd)) := Lib.hid (fun W hW => by
        have h := fz_all (HSC.out W hW)
        rw [hbd, hbf] at h
        exact h)
      clear hbd hbf hho HHV HHO HAX HDH
      go_upto_region 14 with fail
      have HS0 : Hid (Below x3.heap.size x3 x3.drew) := Lib.hid (below_drew (Below.refl _ _))
      have HCD : Hid (∀ W, Below x3.heap.size x3 W → W.cell? ⟨w.heap.size, 11, none⟩ = some (.bool bd) ∧ W.cell? ⟨w.heap.size, 10, none⟩ = some (.bool bf)) := Lib.hid (fun W hW => ⟨by rw [← HBD.out]; exact (HSC.out W hW).cell 11, by rw [← HBF'.out]; exact (HSC.out W hW).cell 10⟩)
      refine wp_plan (fun V => Below x3.heap.size x3 V) [(0, false), (1, false), (3, false), (2, true), (4, false), (5, false), (6, false), (7, false), (8, false), (9, false), (10, false), (11, false), (12, false), (13, false), (14, false), (15, false), (17, false), (18, false), (16, true), (19, false), (20, false), (21, false), (22, false), (23, false), (24, false), (25, false), (26, false), (27, true), (28, false), (29, false)] (by kernel_rfl) (by kernel_rfl) HS0.out ?_
      simp only [planL, List.getElem?_cons_zero, List.getElem?_cons_succ]
      repeat (first | (refine plan_on _ (by rfl) (fun W hW => by (obtain ⟨c0, c1, c2, c3, c4, c5, c6, c7, c8, c9, c10, c11⟩ := HS2.out W hW; go_simp; try (first | with_reducible rfl | rw [if_neg (by omega)]))) ?_; simp only [Act.put, List.setIfInBounds_toArray, List.set_cons_zero, List.set_cons_succ]) | (refine plan_off (by rfl) ?_; simp only [Act.put, List.setIfInBounds_toArray, List.set_cons_zero, List.set_cons_succ]))
      refine plan_turn ?_
      have HC4 := Lib.hid (HHN.out _ HS0.out)
      go_wp2_with fail
      refine HC4.out.mono ?_
      rintro e x4 ⟨rfl, hx⟩
      have HX4 : Hid (Below x3.heap.size x3 x4) := Lib.hid (HS0.out.trans (hx.mono HS0.out.size))
      clear hx HC4
      go_wp2_with fail
      refine ⟨HX4.out, ?_⟩
      repeat (first | (refine plan_on _ (by rfl) (fun W hW => by (obtain ⟨c0, c1, c2, c3, c4, c5, c6, c7, c8, c9, c10, c11⟩ := HS2.out W hW; go_simp; try (first | with_reducible rfl | rw [if_neg (by omega)]))) ?_; simp only [Act.put, List.setIfInBounds_toArray, List.set_cons_zero, List.set_cons_succ]) | (refine plan_off (by rfl) ?_; simp only [Act.put, List.setIfInBounds_toArray, List.set_cons_zero, List.set_cons_succ]))
      refine plan_turn ?_
      have HC5 := Lib.hid (HHD.out _ HX4.out)
      go_wp2_with fail
      refine HC5.out.mono ?_
      rintro e x5 ⟨rfl, hx⟩
      have HX5 : Hid (Below x3.heap.size x3 x5) := Lib.hid (HX4.out.trans (hx.mono HX4.out.size))
      clear hx HC5
      go_wp2_with fail
      refine ⟨HX5.out, ?_⟩
      cases bd <;> cases bf
      all_goals
        repeat (first | (refine plan_on _ (by rfl) (fun W hW => by (obtain ⟨c10, c11⟩ := HCD.out W hW; go_simp; try (first | with_reducible rfl | rw [if_neg (by omega)]))) ?_; simp only [Act.put, List.setIfInBounds_toArray, List.set_cons_zero, List.set_cons_succ]) | (refine plan_off (by rfl) ?_; simp only [Act.put, List.setIfInBounds_toArray, List.set_cons_zero, List.set_cons_succ]))
        refine plan_turn ?_
        have HC6 := Lib.hid (HAN.out _ HX5.out)
        go_wp2_with fail
        refine HC6.out.mono ?_
        rintro e x6 ⟨rfl, hx⟩
        have HX6 : Hid (Below x3.heap.size x3 x6) := Lib.hid (HX5.out.trans (hx.mono HX5.out.size))
        clear hx HC6
        go_wp2_with fail
        refine ⟨HX6.out, ?_⟩
        repeat (first | (refine plan_on _ (by rfl) (fun W hW => by (obtain ⟨c10, c11⟩ := HCD.out W hW; go_simp; try (first | with_reducible rfl | rw [if_neg (by omega)]))) ?_; simp only [Act.put, List.setIfInBounds_toArray, List.set_cons_zero, List.set_cons_succ]) | (refine plan_off (by rfl) ?_; simp only [Act.put, List.setIfInBounds_toArray, List.set_cons_zero, List.set_cons_succ]))
        refine plan_done ?_
        go_wp2_with fail
        go_ret
        exact ⟨rfl, HBX.out.trans ((HB3'.out.trans (HX6.out.mono HB3'.out.size)).mono HBX.out.size)⟩
    · go_wp2_with fail
      refine HP2.out.mono ?_
      rintro e x3 ⟨r, at_, v1, hsy, rfl, hv1, hx⟩
      obtain ⟨rfl, rfl⟩ := hsy.det says_dnf
      have HHV := Lib.hid (dnfV hv1)
      have HB3' := Lib.hid hx
      clear hsy hv1 hx HP2 c1
      simp only [errOf, Option.isNone_some]
      obtain ⟨g2, rfl, hho⟩ := HHV.out
      have HHD : Hid (∀ W, Below x3.heap.size x3 W → Calls Tryd.prog 14 #[.pointer (some ⟨g2, 0, none⟩), .agg #[.string z.name, .string z.maker, .string z.tags, .int .i64 z.stock, .int .i64 z.price, .int .i64 z.born, .bool z.listed, .int .i64 z.now, .int .i64 z.age, .int .i64 z.fans, .bool z.follows, .bool z.done]] W (ROf (holdsN (fzX z) dnfN) W)) := Lib.hid (fun W hW => hho z W hW)
      have HHN : Hid (∀ W, Below x3.heap.size x3 W → Calls Tryd.prog 14 #[.pointer (some ⟨g1, 0, none⟩), .agg #[.string z.name, .string z.maker, .string z.tags, .int .i64 z.stock, .int .i64 z.price, .int .i64 z.born, .bool z.listed, .int .i64 z.now, .int .i64 z.age, .int .i64 z.fans, .bool z.follows, .bool z.done]] W (ROf false W)) := Lib.hid (fun W hW => HHO.out W (HB3'.out.trans (hW.mono HB3'.out.size)))
      have HAN : Hid (∀ W, Below x3.heap.size x3 W → Calls Tryd.prog 8 #[] W fun e w' => e = .returned (.bool true) ∧ Below W.heap.size W w') := Lib.hid (fun W hW => HAX.out W (HB3'.out.trans (hW.mono HB3'.out.size)))
      have HSC : Hid (∀ W, Below x3.heap.size x3 W → Blk W w.heap.size FAC (fzA z)) := Lib.hid (fun W hW => (HWB.out.under HB3'.out).under hW)
      obtain ⟨bd, hbd⟩ : ∃ b, z.done = b := ⟨_, rfl⟩
      obtain ⟨bf, hbf⟩ : ∃ b, z.follows = b := ⟨_, rfl⟩
      have HBD := Lib.hid hbd
      have HBF' := Lib.hid hbf
      have HDH : Hid (holdsN (fzX z) dnfN = (bd && !bf)) := Lib.hid (by rw [dnf_holds, ← hbd, ← hbf]; rfl)
      rw [HDH.out, hbd, hbf] at HHD
      rw [hbd, hbf] at HHN
      have HS2 : Hid (∀ W, Below x3.heap.size x3 W → W.cell? ⟨w.heap.size, 0, none⟩ = some (.string z.name) ∧ W.cell? ⟨w.heap.size, 1, none⟩ = some (.string z.maker) ∧ W.cell? ⟨w.heap.size, 2, none⟩ = some (.string z.tags) ∧ W.cell? ⟨w.heap.size, 3, none⟩ = some (.int .i64 z.stock) ∧ W.cell? ⟨w.heap.size, 4, none⟩ = some (.int .i64 z.price) ∧ W.cell? ⟨w.heap.size, 5, none⟩ = some (.int .i64 z.born) ∧ W.cell? ⟨w.heap.size, 6, none⟩ = some (.bool z.listed) ∧ W.cell? ⟨w.heap.size, 7, none⟩ = some (.int .i64 z.now) ∧ W.cell? ⟨w.heap.size, 8, none⟩ = some (.int .i64 z.age) ∧ W.cell? ⟨w.heap.size, 9, none⟩ = some (.int .i64 z.fans) ∧ W.cell? ⟨w.heap.size, 10, none⟩ = some (.bool bf) ∧ W.cell? ⟨w.heap.size, 11, none⟩ = some (.bool bd)) := Lib.hid (fun W hW => by
        have h := fz_all (HSC.out W hW)
        rw [hbd, hbf] at h
        exact h)
      clear hbd hbf hho HHV HHO HAX HDH
      go_upto_region 14 with fail
      have HS0 : Hid (Below x3.heap.size x3 x3.drew) := Lib.hid (below_drew (Below.refl _ _))
      have HCD : Hid (∀ W, Below x3.heap.size x3 W → W.cell? ⟨w.heap.size, 11, none⟩ = some (.bool bd) ∧ W.cell? ⟨w.heap.size, 10, none⟩ = some (.bool bf)) := Lib.hid (fun W hW => ⟨by rw [← HBD.out]; exact (HSC.out W hW).cell 11, by rw [← HBF'.out]; exact (HSC.out W hW).cell 10⟩)
      refine wp_plan (fun V => Below x3.heap.size x3 V) [(0, false), (1, false), (3, false), (2, true), (4, false), (5, false), (6, false), (7, false), (8, false), (9, false), (10, false), (11, false), (12, false), (13, false), (14, false), (15, false), (17, false), (18, false), (16, true), (19, false), (20, false), (21, false), (22, false), (23, false), (24, false), (25, false), (26, false), (27, true), (28, false), (29, false)] (by kernel_rfl) (by kernel_rfl) HS0.out ?_
      simp only [planL, List.getElem?_cons_zero, List.getElem?_cons_succ]
      repeat (first | (refine plan_on _ (by rfl) (fun W hW => by (obtain ⟨c0, c1, c2, c3, c4, c5, c6, c7, c8, c9, c10, c11⟩ := HS2.out W hW; go_simp; try (first | with_reducible rfl | rw [if_neg (by omega)]))) ?_; simp only [Act.put, List.setIfInBounds_toArray, List.set_cons_zero, List.set_cons_succ]) | (refine plan_off (by rfl) ?_; simp only [Act.put, List.setIfInBounds_toArray, List.set_cons_zero, List.set_cons_succ]))
      refine plan_turn ?_
      have HC4 := Lib.hid (HHN.out _ HS0.out)
      go_wp2_with fail
      refine HC4.out.mono ?_
      rintro e x4 ⟨rfl, hx⟩
      have HX4 : Hid (Below x3.heap.size x3 x4) := Lib.hid (HS0.out.trans (hx.mono HS0.out.size))
      clear hx HC4
      go_wp2_with fail
      refine ⟨HX4.out, ?_⟩
      repeat (first | (refine plan_on _ (by rfl) (fun W hW => by (obtain ⟨c0, c1, c2, c3, c4, c5, c6, c7, c8, c9, c10, c11⟩ := HS2.out W hW; go_simp; try (first | with_reducible rfl | rw [if_neg (by omega)]))) ?_; simp only [Act.put, List.setIfInBounds_toArray, List.set_cons_zero, List.set_cons_succ]) | (refine plan_off (by rfl) ?_; simp only [Act.put, List.setIfInBounds_toArray, List.set_cons_zero, List.set_cons_succ]))
      refine plan_turn ?_
      have HC5 := Lib.hid (HHD.out _ HX4.out)
      go_wp2_with fail
      refine HC5.out.mono ?_
      rintro e x5 ⟨rfl, hx⟩
      have HX5 : Hid (Below x3.heap.size x3 x5) := Lib.hid (HX4.out.trans (hx.mono HX4.out.size))
      clear hx HC5
      go_wp2_with fail
      refine ⟨HX5.out, ?_⟩
      cases bd <;> cases bf
      all_goals
        repeat (first | (refine plan_on _ (by rfl) (fun W hW => by (obtain ⟨c10, c11⟩ := HCD.out W hW; go_simp; try (first | with_reducible rfl | rw [if_neg (by omega)]))) ?_; simp only [Act.put, List.setIfInBounds_toArray, List.set_cons_zero, List.set_cons_succ]) | (refine plan_off (by rfl) ?_; simp only [Act.put, List.setIfInBounds_toArray, List.set_cons_zero, List.set_cons_succ]))
        refine plan_turn ?_
        have HC6 := Lib.hid (HAN.out _ HX5.out)
        go_wp2_with fail
        refine HC6.out.mono ?_
        rintro e x6 ⟨rfl, hx⟩
        have HX6 : Hid (Below x3.heap.size x3 x6) := Lib.hid (HX5.out.trans (hx.mono HX5.out.size))
        clear hx HC6
        go_wp2_with fail
        refine ⟨HX6.out, ?_⟩
        repeat (first | (refine plan_on _ (by rfl) (fun W hW => by (obtain ⟨c10, c11⟩ := HCD.out W hW; go_simp; try (first | with_reducible rfl | rw [if_neg (by omega)]))) ?_; simp only [Act.put, List.setIfInBounds_toArray, List.set_cons_zero, List.set_cons_succ]) | (refine plan_off (by rfl) ?_; simp only [Act.put, List.setIfInBounds_toArray, List.set_cons_zero, List.set_cons_succ]))
        refine plan_done ?_
        go_wp2_with fail
        go_ret
        exact ⟨rfl, HBX.out.trans ((HB3'.out.trans (HX6.out.mono HB3'.out.size)).mono HBX.out.size)⟩
  · have hsz : (x ++ ⟨#[60]⟩ : ByteArray).size = x.size + 1 := by rw [ByteArray.size_append]; rfl
    have HSG : Hid (signW true = ⟨#[60]⟩) := Lib.hid rfl
    rw [HSG.out] at HPA HSY HSS
    go_enter Tryd.func7, Tryd.ntmps7
    go_upto_region 7 with fail
    rw [hmod]
    clear hw1 hw2 hw3 f0 f1 f2 f3 f4 f5 f6 f7 f8 f9 f10 f11 hmod
    have HS0 : Hid (Below w3.heap.size w3 w3.drew) := Lib.hid (below_drew (Below.refl _ _))
    have HDG3 : Hid (∀ W, Below w3.heap.size w3 W → Calls Tryd.prog 15 #[.int .i64 n] W fun e w' => e = .returned (.string y) ∧ Below W.heap.size W w') := Lib.hid (fun W _ => HDG.out W)
    have HPA3 : Hid (∀ W, Below w3.heap.size w3 W → Calls Tryd.prog 9 #[.string (x ++ ⟨#[60]⟩ ++ y)] W (ParseR (x ++ ⟨#[60]⟩ ++ y) W)) := Lib.hid (fun W hW => HPA.out W (HB3.out.trans (hW.mono HB3.out.size)))
    refine wp_plan (fun V => Below w3.heap.size w3 V) [(0, false), (1, false), (2, false), (3, false), (4, false), (5, false), (6, false), (7, false), (8, true), (9, false), (10, true), (11, false), (12, false), (13, false), (14, false), (15, false), (16, false), (17, false)] (by kernel_rfl) (by kernel_rfl) HS0.out ?_
    simp only [planL, List.getElem?_cons_zero, List.getElem?_cons_succ]
    repeat (first | (refine plan_on _ (by rfl) (fun W hW => by (have q0 := HCW.out W hW; go_simp; try (first | with_reducible rfl | rw [if_neg (by omega)]))) ?_; simp only [Act.put, List.setIfInBounds_toArray, List.set_cons_zero, List.set_cons_succ]) | (refine plan_off (by rfl) ?_; simp only [Act.put, List.setIfInBounds_toArray, List.set_cons_zero, List.set_cons_succ]))
    refine plan_turn ?_
    have HC1 := Lib.hid (HDG3.out _ HS0.out)
    go_wp2_with fail
    refine HC1.out.mono ?_
    rintro e x1 ⟨rfl, hx⟩
    have HX1 : Hid (Below w3.heap.size w3 x1) := Lib.hid (HS0.out.trans (hx.mono HS0.out.size))
    clear hx HC1
    go_wp2_with fail
    refine ⟨HX1.out, ?_⟩
    repeat (first | (refine plan_on _ (by rfl) (fun W hW => by (have q0 := HCW.out W hW; go_simp; try (first | with_reducible rfl | rw [if_neg (by omega)]))) ?_; simp only [Act.put, List.setIfInBounds_toArray, List.set_cons_zero, List.set_cons_succ]) | (refine plan_off (by rfl) ?_; simp only [Act.put, List.setIfInBounds_toArray, List.set_cons_zero, List.set_cons_succ]))
    refine plan_turn ?_
    have HC2 := Lib.hid (HPA3.out _ HX1.out)
    go_wp2_with fail
    refine HC2.out.mono ?_
    rintro e x2 ⟨r, at_, v1, hsy, rfl, hv1, hx⟩
    have HX2 : Hid (Below w3.heap.size w3 x2) := Lib.hid (HX1.out.trans (hx.mono HX1.out.size))
    obtain ⟨rfl, rfl⟩ := hsy.det HSY.out
    have HHV := Lib.hid (numV hv1)
    have HB2' := Lib.hid hx
    clear hsy hv1 hx HC2
    simp only [errOf, Option.isNone_some]
    obtain ⟨g1, rfl, hho⟩ := HHV.out
    have HHO : Hid (∀ W, Below x2.heap.size x2 W → Calls Tryd.prog 14 #[.pointer (some ⟨g1, 0, none⟩), .agg #[.string z.name, .string z.maker, .string z.tags, .int .i64 z.stock, .int .i64 z.price, .int .i64 z.born, .bool z.listed, .int .i64 z.now, .int .i64 z.age, .int .i64 z.fans, .bool z.follows, .bool z.done]] W (ROf (holdsN (fzX z) (.atom (.num k true n))) W)) := Lib.hid (fun W hW => hho z W hk hW)
    clear hho HHV
    go_wp2_with fail
    refine ⟨HX2.out, ?_⟩
    repeat (first | (refine plan_on _ (by rfl) (fun W hW => by (have q0 := HCW.out W hW; go_simp; try (first | with_reducible rfl | rw [if_neg (by omega)]))) ?_; simp only [Act.put, List.setIfInBounds_toArray, List.set_cons_zero, List.set_cons_succ]) | (refine plan_off (by rfl) ?_; simp only [Act.put, List.setIfInBounds_toArray, List.set_cons_zero, List.set_cons_succ]))
    refine plan_done ?_
    have HBX := Lib.hid (HB3.out.trans (HX2.out.mono HB3.out.size))
    have c1 : x2.cell? ⟨w2.heap.size, k, none⟩ = some (.int .i64 V) := HCV.out x2 HX2.out
    have HP2 : Hid (Calls Tryd.prog 9 #[.string ⟨#[100, 111, 110, 101, 32, 97, 110, 100, 32, 110, 111, 116, 32, 102, 111, 108, 108, 111, 119, 115]⟩] x2 (ParseR dnfB x2)) := Lib.hid (parse_any dnfB x2 (by decide) (HLB.out.below HBX.out).all)
    have HWB : Hid (Blk x2 w.heap.size FAC (fzA z)) := Lib.hid (HBF3.out.under HX2.out)
    have HAX : Hid (∀ W, Below x2.heap.size x2 W → Calls Tryd.prog 8 #[] W fun e w' => e = .returned (.bool true) ∧ Below W.heap.size W w') := Lib.hid (fun W hW => awake_any W ((HLB.out.below HBX.out).below hW))
    have key : ∃ b, Hid (holdsN (fzX z) (.atom (.num k true n)) = b) ∧ decide (V < (n : Int)) = b := ⟨_, Lib.hid HNS.out, rfl⟩
    obtain ⟨b, HNB, hdb⟩ := key
    rw [HNB.out] at HHO
    have HDB := Lib.hid hdb
    clear HNB hdb HNS
    have hV : (V < (n : Int) ∧ b = true) ∨ (¬ V < (n : Int) ∧ b = false) := by
      by_cases h : V < (n : Int)
      · exact Or.inl ⟨h, by rw [← HDB.out]; exact decide_eq_true h⟩
      · exact Or.inr ⟨h, by rw [← HDB.out]; exact decide_eq_false h⟩
    clear HDB HSY HPA HPA3 HDG HDG3 HSS HSG hsz hxz hyz HWZ HDZ HCW HCV HS0 HX1
    rcases hV with ⟨hV, rfl⟩ | ⟨hV, rfl⟩
    · go_wp2_with fail
      refine HP2.out.mono ?_
      rintro e x3 ⟨r, at_, v1, hsy, rfl, hv1, hx⟩
      obtain ⟨rfl, rfl⟩ := hsy.det says_dnf
      have HHV := Lib.hid (dnfV hv1)
      have HB3' := Lib.hid hx
      clear hsy hv1 hx HP2 c1
      simp only [errOf, Option.isNone_some]
      obtain ⟨g2, rfl, hho⟩ := HHV.out
      have HHD : Hid (∀ W, Below x3.heap.size x3 W → Calls Tryd.prog 14 #[.pointer (some ⟨g2, 0, none⟩), .agg #[.string z.name, .string z.maker, .string z.tags, .int .i64 z.stock, .int .i64 z.price, .int .i64 z.born, .bool z.listed, .int .i64 z.now, .int .i64 z.age, .int .i64 z.fans, .bool z.follows, .bool z.done]] W (ROf (holdsN (fzX z) dnfN) W)) := Lib.hid (fun W hW => hho z W hW)
      have HHN : Hid (∀ W, Below x3.heap.size x3 W → Calls Tryd.prog 14 #[.pointer (some ⟨g1, 0, none⟩), .agg #[.string z.name, .string z.maker, .string z.tags, .int .i64 z.stock, .int .i64 z.price, .int .i64 z.born, .bool z.listed, .int .i64 z.now, .int .i64 z.age, .int .i64 z.fans, .bool z.follows, .bool z.done]] W (ROf true W)) := Lib.hid (fun W hW => HHO.out W (HB3'.out.trans (hW.mono HB3'.out.size)))
      have HAN : Hid (∀ W, Below x3.heap.size x3 W → Calls Tryd.prog 8 #[] W fun e w' => e = .returned (.bool true) ∧ Below W.heap.size W w') := Lib.hid (fun W hW => HAX.out W (HB3'.out.trans (hW.mono HB3'.out.size)))
      have HSC : Hid (∀ W, Below x3.heap.size x3 W → Blk W w.heap.size FAC (fzA z)) := Lib.hid (fun W hW => (HWB.out.under HB3'.out).under hW)
      obtain ⟨bd, hbd⟩ : ∃ b, z.done = b := ⟨_, rfl⟩
      obtain ⟨bf, hbf⟩ : ∃ b, z.follows = b := ⟨_, rfl⟩
      have HBD := Lib.hid hbd
      have HBF' := Lib.hid hbf
      have HDH : Hid (holdsN (fzX z) dnfN = (bd && !bf)) := Lib.hid (by rw [dnf_holds, ← hbd, ← hbf]; rfl)
      rw [HDH.out, hbd, hbf] at HHD
      rw [hbd, hbf] at HHN
      have HS2 : Hid (∀ W, Below x3.heap.size x3 W → W.cell? ⟨w.heap.size, 0, none⟩ = some (.string z.name) ∧ W.cell? ⟨w.heap.size, 1, none⟩ = some (.string z.maker) ∧ W.cell? ⟨w.heap.size, 2, none⟩ = some (.string z.tags) ∧ W.cell? ⟨w.heap.size, 3, none⟩ = some (.int .i64 z.stock) ∧ W.cell? ⟨w.heap.size, 4, none⟩ = some (.int .i64 z.price) ∧ W.cell? ⟨w.heap.size, 5, none⟩ = some (.int .i64 z.born) ∧ W.cell? ⟨w.heap.size, 6, none⟩ = some (.bool z.listed) ∧ W.cell? ⟨w.heap.size, 7, none⟩ = some (.int .i64 z.now) ∧ W.cell? ⟨w.heap.size, 8, none⟩ = some (.int .i64 z.age) ∧ W.cell? ⟨w.heap.size, 9, none⟩ = some (.int .i64 z.fans) ∧ W.cell? ⟨w.heap.size, 10, none⟩ = some (.bool bf) ∧ W.cell? ⟨w.heap.size, 11, none⟩ = some (.bool bd)) := Lib.hid (fun W hW => by
        have h := fz_all (HSC.out W hW)
        rw [hbd, hbf] at h
        exact h)
      clear hbd hbf hho HHV HHO HAX HDH
      go_upto_region 14 with fail
      have HS0 : Hid (Below x3.heap.size x3 x3.drew) := Lib.hid (below_drew (Below.refl _ _))
      have HCD : Hid (∀ W, Below x3.heap.size x3 W → W.cell? ⟨w.heap.size, 11, none⟩ = some (.bool bd) ∧ W.cell? ⟨w.heap.size, 10, none⟩ = some (.bool bf)) := Lib.hid (fun W hW => ⟨by rw [← HBD.out]; exact (HSC.out W hW).cell 11, by rw [← HBF'.out]; exact (HSC.out W hW).cell 10⟩)
      refine wp_plan (fun V => Below x3.heap.size x3 V) [(0, false), (1, false), (3, false), (2, true), (4, false), (5, false), (6, false), (7, false), (8, false), (9, false), (10, false), (11, false), (12, false), (13, false), (14, false), (15, false), (17, false), (18, false), (16, true), (19, false), (20, false), (21, false), (22, false), (23, false), (24, false), (25, false), (26, false), (27, true), (28, false), (29, false)] (by kernel_rfl) (by kernel_rfl) HS0.out ?_
      simp only [planL, List.getElem?_cons_zero, List.getElem?_cons_succ]
      repeat (first | (refine plan_on _ (by rfl) (fun W hW => by (obtain ⟨c0, c1, c2, c3, c4, c5, c6, c7, c8, c9, c10, c11⟩ := HS2.out W hW; go_simp; try (first | with_reducible rfl | rw [if_neg (by omega)]))) ?_; simp only [Act.put, List.setIfInBounds_toArray, List.set_cons_zero, List.set_cons_succ]) | (refine plan_off (by rfl) ?_; simp only [Act.put, List.setIfInBounds_toArray, List.set_cons_zero, List.set_cons_succ]))
      refine plan_turn ?_
      have HC4 := Lib.hid (HHN.out _ HS0.out)
      go_wp2_with fail
      refine HC4.out.mono ?_
      rintro e x4 ⟨rfl, hx⟩
      have HX4 : Hid (Below x3.heap.size x3 x4) := Lib.hid (HS0.out.trans (hx.mono HS0.out.size))
      clear hx HC4
      go_wp2_with fail
      refine ⟨HX4.out, ?_⟩
      repeat (first | (refine plan_on _ (by rfl) (fun W hW => by (obtain ⟨c0, c1, c2, c3, c4, c5, c6, c7, c8, c9, c10, c11⟩ := HS2.out W hW; go_simp; try (first | with_reducible rfl | rw [if_neg (by omega)]))) ?_; simp only [Act.put, List.setIfInBounds_toArray, List.set_cons_zero, List.set_cons_succ]) | (refine plan_off (by rfl) ?_; simp only [Act.put, List.setIfInBounds_toArray, List.set_cons_zero, List.set_cons_succ]))
      refine plan_turn ?_
      have HC5 := Lib.hid (HHD.out _ HX4.out)
      go_wp2_with fail
      refine HC5.out.mono ?_
      rintro e x5 ⟨rfl, hx⟩
      have HX5 : Hid (Below x3.heap.size x3 x5) := Lib.hid (HX4.out.trans (hx.mono HX4.out.size))
      clear hx HC5
      go_wp2_with fail
      refine ⟨HX5.out, ?_⟩
      cases bd <;> cases bf
      all_goals
        repeat (first | (refine plan_on _ (by rfl) (fun W hW => by (obtain ⟨c10, c11⟩ := HCD.out W hW; go_simp; try (first | with_reducible rfl | rw [if_neg (by omega)]))) ?_; simp only [Act.put, List.setIfInBounds_toArray, List.set_cons_zero, List.set_cons_succ]) | (refine plan_off (by rfl) ?_; simp only [Act.put, List.setIfInBounds_toArray, List.set_cons_zero, List.set_cons_succ]))
        refine plan_turn ?_
        have HC6 := Lib.hid (HAN.out _ HX5.out)
        go_wp2_with fail
        refine HC6.out.mono ?_
        rintro e x6 ⟨rfl, hx⟩
        have HX6 : Hid (Below x3.heap.size x3 x6) := Lib.hid (HX5.out.trans (hx.mono HX5.out.size))
        clear hx HC6
        go_wp2_with fail
        refine ⟨HX6.out, ?_⟩
        repeat (first | (refine plan_on _ (by rfl) (fun W hW => by (obtain ⟨c10, c11⟩ := HCD.out W hW; go_simp; try (first | with_reducible rfl | rw [if_neg (by omega)]))) ?_; simp only [Act.put, List.setIfInBounds_toArray, List.set_cons_zero, List.set_cons_succ]) | (refine plan_off (by rfl) ?_; simp only [Act.put, List.setIfInBounds_toArray, List.set_cons_zero, List.set_cons_succ]))
        refine plan_done ?_
        go_wp2_with fail
        go_ret
        exact ⟨rfl, HBX.out.trans ((HB3'.out.trans (HX6.out.mono HB3'.out.size)).mono HBX.out.size)⟩
    · go_wp2_with fail
      refine HP2.out.mono ?_
      rintro e x3 ⟨r, at_, v1, hsy, rfl, hv1, hx⟩
      obtain ⟨rfl, rfl⟩ := hsy.det says_dnf
      have HHV := Lib.hid (dnfV hv1)
      have HB3' := Lib.hid hx
      clear hsy hv1 hx HP2 c1
      simp only [errOf, Option.isNone_some]
      obtain ⟨g2, rfl, hho⟩ := HHV.out
      have HHD : Hid (∀ W, Below x3.heap.size x3 W → Calls Tryd.prog 14 #[.pointer (some ⟨g2, 0, none⟩), .agg #[.string z.name, .string z.maker, .string z.tags, .int .i64 z.stock, .int .i64 z.price, .int .i64 z.born, .bool z.listed, .int .i64 z.now, .int .i64 z.age, .int .i64 z.fans, .bool z.follows, .bool z.done]] W (ROf (holdsN (fzX z) dnfN) W)) := Lib.hid (fun W hW => hho z W hW)
      have HHN : Hid (∀ W, Below x3.heap.size x3 W → Calls Tryd.prog 14 #[.pointer (some ⟨g1, 0, none⟩), .agg #[.string z.name, .string z.maker, .string z.tags, .int .i64 z.stock, .int .i64 z.price, .int .i64 z.born, .bool z.listed, .int .i64 z.now, .int .i64 z.age, .int .i64 z.fans, .bool z.follows, .bool z.done]] W (ROf false W)) := Lib.hid (fun W hW => HHO.out W (HB3'.out.trans (hW.mono HB3'.out.size)))
      have HAN : Hid (∀ W, Below x3.heap.size x3 W → Calls Tryd.prog 8 #[] W fun e w' => e = .returned (.bool true) ∧ Below W.heap.size W w') := Lib.hid (fun W hW => HAX.out W (HB3'.out.trans (hW.mono HB3'.out.size)))
      have HSC : Hid (∀ W, Below x3.heap.size x3 W → Blk W w.heap.size FAC (fzA z)) := Lib.hid (fun W hW => (HWB.out.under HB3'.out).under hW)
      obtain ⟨bd, hbd⟩ : ∃ b, z.done = b := ⟨_, rfl⟩
      obtain ⟨bf, hbf⟩ : ∃ b, z.follows = b := ⟨_, rfl⟩
      have HBD := Lib.hid hbd
      have HBF' := Lib.hid hbf
      have HDH : Hid (holdsN (fzX z) dnfN = (bd && !bf)) := Lib.hid (by rw [dnf_holds, ← hbd, ← hbf]; rfl)
      rw [HDH.out, hbd, hbf] at HHD
      rw [hbd, hbf] at HHN
      have HS2 : Hid (∀ W, Below x3.heap.size x3 W → W.cell? ⟨w.heap.size, 0, none⟩ = some (.string z.name) ∧ W.cell? ⟨w.heap.size, 1, none⟩ = some (.string z.maker) ∧ W.cell? ⟨w.heap.size, 2, none⟩ = some (.string z.tags) ∧ W.cell? ⟨w.heap.size, 3, none⟩ = some (.int .i64 z.stock) ∧ W.cell? ⟨w.heap.size, 4, none⟩ = some (.int .i64 z.price) ∧ W.cell? ⟨w.heap.size, 5, none⟩ = some (.int .i64 z.born) ∧ W.cell? ⟨w.heap.size, 6, none⟩ = some (.bool z.listed) ∧ W.cell? ⟨w.heap.size, 7, none⟩ = some (.int .i64 z.now) ∧ W.cell? ⟨w.heap.size, 8, none⟩ = some (.int .i64 z.age) ∧ W.cell? ⟨w.heap.size, 9, none⟩ = some (.int .i64 z.fans) ∧ W.cell? ⟨w.heap.size, 10, none⟩ = some (.bool bf) ∧ W.cell? ⟨w.heap.size, 11, none⟩ = some (.bool bd)) := Lib.hid (fun W hW => by
        have h := fz_all (HSC.out W hW)
        rw [hbd, hbf] at h
        exact h)
      clear hbd hbf hho HHV HHO HAX HDH
      go_upto_region 14 with fail
      have HS0 : Hid (Below x3.heap.size x3 x3.drew) := Lib.hid (below_drew (Below.refl _ _))
      have HCD : Hid (∀ W, Below x3.heap.size x3 W → W.cell? ⟨w.heap.size, 11, none⟩ = some (.bool bd) ∧ W.cell? ⟨w.heap.size, 10, none⟩ = some (.bool bf)) := Lib.hid (fun W hW => ⟨by rw [← HBD.out]; exact (HSC.out W hW).cell 11, by rw [← HBF'.out]; exact (HSC.out W hW).cell 10⟩)
      refine wp_plan (fun V => Below x3.heap.size x3 V) [(0, false), (1, false), (3, false), (2, true), (4, false), (5, false), (6, false), (7, false), (8, false), (9, false), (10, false), (11, false), (12, false), (13, false), (14, false), (15, false), (17, false), (18, false), (16, true), (19, false), (20, false), (21, false), (22, false), (23, false), (24, false), (25, false), (26, false), (27, true), (28, false), (29, false)] (by kernel_rfl) (by kernel_rfl) HS0.out ?_
      simp only [planL, List.getElem?_cons_zero, List.getElem?_cons_succ]
      repeat (first | (refine plan_on _ (by rfl) (fun W hW => by (obtain ⟨c0, c1, c2, c3, c4, c5, c6, c7, c8, c9, c10, c11⟩ := HS2.out W hW; go_simp; try (first | with_reducible rfl | rw [if_neg (by omega)]))) ?_; simp only [Act.put, List.setIfInBounds_toArray, List.set_cons_zero, List.set_cons_succ]) | (refine plan_off (by rfl) ?_; simp only [Act.put, List.setIfInBounds_toArray, List.set_cons_zero, List.set_cons_succ]))
      refine plan_turn ?_
      have HC4 := Lib.hid (HHN.out _ HS0.out)
      go_wp2_with fail
      refine HC4.out.mono ?_
      rintro e x4 ⟨rfl, hx⟩
      have HX4 : Hid (Below x3.heap.size x3 x4) := Lib.hid (HS0.out.trans (hx.mono HS0.out.size))
      clear hx HC4
      go_wp2_with fail
      refine ⟨HX4.out, ?_⟩
      repeat (first | (refine plan_on _ (by rfl) (fun W hW => by (obtain ⟨c0, c1, c2, c3, c4, c5, c6, c7, c8, c9, c10, c11⟩ := HS2.out W hW; go_simp; try (first | with_reducible rfl | rw [if_neg (by omega)]))) ?_; simp only [Act.put, List.setIfInBounds_toArray, List.set_cons_zero, List.set_cons_succ]) | (refine plan_off (by rfl) ?_; simp only [Act.put, List.setIfInBounds_toArray, List.set_cons_zero, List.set_cons_succ]))
      refine plan_turn ?_
      have HC5 := Lib.hid (HHD.out _ HX4.out)
      go_wp2_with fail
      refine HC5.out.mono ?_
      rintro e x5 ⟨rfl, hx⟩
      have HX5 : Hid (Below x3.heap.size x3 x5) := Lib.hid (HX4.out.trans (hx.mono HX4.out.size))
      clear hx HC5
      go_wp2_with fail
      refine ⟨HX5.out, ?_⟩
      cases bd <;> cases bf
      all_goals
        repeat (first | (refine plan_on _ (by rfl) (fun W hW => by (obtain ⟨c10, c11⟩ := HCD.out W hW; go_simp; try (first | with_reducible rfl | rw [if_neg (by omega)]))) ?_; simp only [Act.put, List.setIfInBounds_toArray, List.set_cons_zero, List.set_cons_succ]) | (refine plan_off (by rfl) ?_; simp only [Act.put, List.setIfInBounds_toArray, List.set_cons_zero, List.set_cons_succ]))
        refine plan_turn ?_
        have HC6 := Lib.hid (HAN.out _ HX5.out)
        go_wp2_with fail
        refine HC6.out.mono ?_
        rintro e x6 ⟨rfl, hx⟩
        have HX6 : Hid (Below x3.heap.size x3 x6) := Lib.hid (HX5.out.trans (hx.mono HX5.out.size))
        clear hx HC6
        go_wp2_with fail
        refine ⟨HX6.out, ?_⟩
        repeat (first | (refine plan_on _ (by rfl) (fun W hW => by (obtain ⟨c10, c11⟩ := HCD.out W hW; go_simp; try (first | with_reducible rfl | rw [if_neg (by omega)]))) ?_; simp only [Act.put, List.setIfInBounds_toArray, List.set_cons_zero, List.set_cons_succ]) | (refine plan_off (by rfl) ?_; simp only [Act.put, List.setIfInBounds_toArray, List.set_cons_zero, List.set_cons_succ]))
        refine plan_done ?_
        go_wp2_with fail
        go_ret
        exact ⟨rfl, HBX.out.trans ((HB3'.out.trans (HX6.out.mono HB3'.out.size)).mono HBX.out.size)⟩
theorem ruleAtoms_walk (a b : Int) (less : Bool) (z : Fz) (w : World) (ha : 0 ≤ a ∧ a ≤ 255) (hb : 0 ≤ b ∧ b ≤ 255) (hL : LibAt w) (hg : GlobAt w) :
    Calls Tryd.prog 7 #[.int .u8 a, .int .u8 b, .bool less, .agg (fzA z)] w fun e w' => e = .returned (.bool true) ∧ Below w.heap.size w w' := by
  obtain ⟨m, rfl⟩ : ∃ m : Nat, a = m := ⟨a.toNat, by omega⟩
  obtain ⟨n, rfl⟩ : ∃ n : Nat, b = n := ⟨b.toNat, by omega⟩
  exact ruleAtoms_go (m % 4) n m less z w (by omega) rfl (by omega) (by omega) hL
end Go.Proofs.YtpgbgeofhcpocaaDoor
