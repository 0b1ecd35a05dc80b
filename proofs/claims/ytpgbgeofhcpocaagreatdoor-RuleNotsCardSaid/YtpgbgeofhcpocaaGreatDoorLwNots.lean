/- RuleNots: the walk. -/
import Derived.Test.YtpgbgeofhcpocaaGreatDoorHdH
import Derived.Test.YtpgbgeofhcpocaaGreatDoorNtP
namespace Go.Proofs.YtpgbgeofhcpocaaGreatDoor
open Go.RowKit Go.Maps Go.Shelf
set_option linter.unusedVariables false

theorem rulev_shape3 {w : World} {B : Nat} {r : Option (Option Nd)} {v : Value} (h : RuleV w B r v) : (r = none ∧ v = .pointer none) ∨ ∃ r' p, r = some r' ∧ v = .pointer (some p) := by
  match r, h with
  | none, h => exact Or.inl ⟨rfl, h⟩
  | some none, ⟨g, e, _⟩ => exact Or.inr ⟨_, _, rfl, e⟩
  | some (some n), ⟨_, g, u, e, _⟩ => exact Or.inr ⟨_, _, rfl, e⟩
/-- The three texts; what is expected of them. -/
def ntT (s t : ByteArray) (i : Nat) : ByteArray := if i = 0 then ⟨#[110, 111, 116, 32, 40]⟩ ++ s ++ ⟨#[41]⟩ else if i = 1 then ⟨#[40]⟩ ++ s ++ ⟨#[41, 32, 97, 110, 100, 32, 40]⟩ ++ t ++ ⟨#[41]⟩ else ⟨#[40]⟩ ++ s ++ ⟨#[41, 111, 114, 40]⟩ ++ t ++ ⟨#[41]⟩
def ntE (x y : Bool) (i : Nat) : Bool := if i = 0 then !x else if i = 1 then x && y else x || y
theorem ntT_sz (s t : ByteArray) (i : Nat) : (ntT s t i).size ≤ s.size + t.size + 20 := by
  unfold ntT
  have h1 : (⟨#[110, 111, 116, 32, 40]⟩ : ByteArray).size = 5 := rfl
  have h2 : (⟨#[40]⟩ : ByteArray).size = 1 := rfl
  have h3 : (⟨#[41]⟩ : ByteArray).size = 1 := rfl
  have h4 : (⟨#[41, 32, 97, 110, 100, 32, 40]⟩ : ByteArray).size = 7 := rfl
  have h5 : (⟨#[41, 111, 114, 40]⟩ : ByteArray).size = 4 := rfl
  split
  · simp only [ByteArray.size_append, h1, h3]; omega
  · split
    · simp only [ByteArray.size_append, h2, h3, h4]; omega
    · simp only [ByteArray.size_append, h2, h3, h5]; omega
theorem nt_says {s t : ByteArray} {ra rb r : Option Nd} {a b c i : Nat} (h : Says s (some ra) a) (h' : Says t (some rb) b) (hr : Says (ntT s t i) (some r) c) (f : Fx) : holdsR f r = ntE (holdsR f ra) (holdsR f rb) i := by
  unfold ntT at hr
  unfold ntE
  by_cases h0 : i = 0
  · rw [if_pos h0] at hr ⊢
    obtain ⟨n, m, rfl, rfl, e⟩ := nots_one h (u := ⟨#[110, 111, 116, 32, 40]⟩ ++ s ++ ⟨#[41]⟩) (by simp) hr f
    exact e
  rw [if_neg h0] at hr ⊢
  by_cases h1 : i = 1
  · rw [if_pos h1] at hr ⊢
    obtain ⟨n, m, q, rfl, rfl, rfl, e⟩ := nots_two h h' (u := ⟨#[40]⟩ ++ s ++ ⟨#[41, 32, 97, 110, 100, 32, 40]⟩ ++ t ++ ⟨#[41]⟩) (by simp) hr f
    exact e
  · rw [if_neg h1] at hr ⊢
    obtain ⟨n, m, q, rfl, rfl, rfl, e⟩ := nots_three h h' (u := ⟨#[40]⟩ ++ s ++ ⟨#[41, 111, 114, 40]⟩ ++ t ++ ⟨#[41]⟩) (by simp) hr f
    exact e
theorem ntT_at (s t : ByteArray) {i : Nat} (hi : i < 3) : (#[.string (⟨#[110, 111, 116, 32, 40]⟩ ++ s ++ ⟨#[41]⟩), .string (⟨#[40]⟩ ++ s ++ ⟨#[41, 32, 97, 110, 100, 32, 40]⟩ ++ t ++ ⟨#[41]⟩), .string (⟨#[40]⟩ ++ s ++ ⟨#[41, 111, 114, 40]⟩ ++ t ++ ⟨#[41]⟩)] : Array Value)[i]? = some (.string (ntT s t i)) := by
  rcases (show i = 0 ∨ i = 1 ∨ i = 2 by omega) with rfl | rfl | rfl <;> rfl
theorem ntE_at (x y : Bool) {i : Nat} (hi : i < 3) : (#[.bool (!x), .bool (x && y), .bool (x || y)] : Array Value)[i]? = some (.bool (ntE x y i)) := by
  rcases (show i = 0 ∨ i = 1 ∨ i = 2 by omega) with rfl | rfl | rfl <;> rfl
def AwA (w : World) : Prop := ∀ W, Below w.heap.size w W → Calls Tryz.prog 5 #[] W fun e w' => e = .returned (.bool true) ∧ Below W.heap.size W w'

set_option maxHeartbeats 16000000 in
set_option maxRecDepth 100000 in
theorem ruleNots_walk (s t : ByteArray) (z : Fz) (w : World) (hs : s.size ≤ 140737488355328) (ht : t.size ≤ 140737488355328) (hL : LibAt w) (hg : GlobAt w) :
    Calls Tryz.prog 4 #[.string s, .string t, .agg (fzA z)] w fun e w' => e = .returned (.bool true) ∧ Below w.heap.size w w' := by
  show Calls Tryz.prog 4 #[.string s, .string t, .agg #[.string z.name, .string z.maker, .string z.tags, .int .i64 z.stock, .int .i64 z.price, .int .i64 z.born, .bool z.listed, .int .i64 z.now, .int .i64 z.age, .int .i64 z.fans, .bool z.follows, .bool z.done]] w _
  have HLB := Lib.hid hL
  have HG := Lib.hid hg
  obtain ⟨w1, hw1⟩ : ∃ w1, w.alloc (.cells #[.string z.name, .string z.maker, .string z.tags, .int .i64 z.stock, .int .i64 z.price, .int .i64 z.born, .bool z.listed, .int .i64 z.now, .int .i64 z.age, .int .i64 z.fans, .bool z.follows, .bool z.done] FAC) = w1 := ⟨_, rfl⟩
  have k1 : Below w.heap.size w w1 := by rw [← hw1]; exact (Below.refl _ _).alloc (Nat.le_refl _) _
  have HBF : Hid (Blk w1 w.heap.size FAC (fzA z)) := Lib.hid (by rw [← hw1]; exact Blk.new _ _ _)
  have HK := Lib.hid k1
  have HAW : Hid (∀ W, Below w.heap.size w W → Calls Tryz.prog 5 #[] W fun e w' => e = .returned (.bool true) ∧ Below W.heap.size W w') := Lib.hid (fun W hW => awake_any W (HLB.out.below hW))
  have c2 : w1.cell? ⟨w.heap.size, 2, none⟩ = some (.string z.tags) := HBF.out.cell 2
  clear k1 hL hg
  by_cases hlong : 300 < s.size ∨ 300 < t.size ∨ 300 < z.tags.size
  · have HA := Lib.hid (HAW.out w1 HK.out)
    have q : ((300 : Int) < (s.size : Int)) ∨ (¬ ((300 : Int) < (s.size : Int)) ∧ (300 : Int) < (t.size : Int)) ∨ (¬ ((300 : Int) < (s.size : Int)) ∧ ¬ ((300 : Int) < (t.size : Int)) ∧ (300 : Int) < (z.tags.size : Int)) := by omega
    clear hlong
    rcases q with q1 | ⟨q1, q2⟩ | ⟨q1, q2, q3⟩
    all_goals
      go_enter Tryz.func4, Tryz.ntmps4
      go_wp2_with fail
      refine HA.out.mono ?_
      rintro e w2 ⟨rfl, hb⟩
      have HB := Lib.hid (HK.out.trans (hb.mono HK.out.size))
      clear hb
      go_wp2_with fail
      go_ret
      exact ⟨rfl, HB.out⟩
  have q1 : ¬ (300 : Int) < (s.size : Int) := by omega
  have q2 : ¬ (300 : Int) < (t.size : Int) := by omega
  have q3 : ¬ (300 : Int) < (z.tags.size : Int) := by omega
  have hs1 : s.size ≤ 300 := by omega
  have ht1 : t.size ≤ 300 := by omega
  have hz1 : z.tags.size ≤ 300 := by omega
  have HP := Lib.hid (parse_any s w1 (by omega) (HLB.out.below HK.out).all)
  clear hlong
  go_enter Tryz.func4, Tryz.ntmps4
  go_wp2_with fail
  refine HP.out.mono ?_
  rintro e w2 ⟨ra, at_, va, hsy, rfl, hv, hb⟩
  have HSA := Lib.hid hsy
  have HB2 := Lib.hid (HK.out.trans (hb.mono HK.out.size))
  have HBF2 := Lib.hid (HBF.out.under hb)
  have HVA := Lib.hid hv
  have HP2 := Lib.hid (parse_any t w2 (by omega) (HLB.out.below HB2.out).all)
  clear hsy hb hv HP c2 hw1 HBF
  go_wp2_with fail
  refine HP2.out.mono ?_
  rintro e w3 ⟨rb, bt_, vb, hsy, rfl, hv, hb⟩
  have HSB := Lib.hid hsy
  have HB3 := Lib.hid (HB2.out.trans (hb.mono HB2.out.size))
  have HBF3 := Lib.hid (HBF2.out.under hb)
  have HVA3 := Lib.hid (HVA.out.below hb)
  have HVB := Lib.hid hv
  have HA3 := Lib.hid (HAW.out w3 HB3.out)
  clear hsy hb hv HP2 HBF2 HVA
  rcases rulev_shape3 HVA3.out with ⟨rfl, rfl⟩ | ⟨ra, pa, rfl, rfl⟩
  · rcases rulev_shape3 HVB.out with ⟨rfl, rfl⟩ | ⟨rb, pb, rfl, rfl⟩
    all_goals
      simp only [errOf, Option.isNone_none, Option.isNone_some]
      go_wp2_with fail
      refine HA3.out.mono ?_
      rintro e w4 ⟨rfl, hb⟩
      have HB := Lib.hid (HB3.out.trans (hb.mono HB3.out.size))
      clear hb
      go_wp2_with fail
      go_ret
      exact ⟨rfl, HB.out⟩
  rcases rulev_shape3 HVB.out with ⟨rfl, rfl⟩ | ⟨rb, pb, rfl, rfl⟩
  · simp only [errOf, Option.isNone_none, Option.isNone_some]
    go_wp2_with fail
    refine HA3.out.mono ?_
    rintro e w4 ⟨rfl, hb⟩
    have HB := Lib.hid (HB3.out.trans (hb.mono HB3.out.size))
    clear hb
    go_wp2_with fail
    go_ret
    exact ⟨rfl, HB.out⟩
  have HZA := Lib.hid HSA.out.sz
  have HZB := Lib.hid HSB.out.sz
  have HHA : Hid (∀ W, Below w3.heap.size w3 W → Calls Tryz.prog 8 #[.pointer (some pa), .agg #[.string z.name, .string z.maker, .string z.tags, .int .i64 z.stock, .int .i64 z.price, .int .i64 z.born, .bool z.listed, .int .i64 z.now, .int .i64 z.age, .int .i64 z.fans, .bool z.follows, .bool z.done]] W (ROf (holdsR (fzX z) ra) W)) := Lib.hid (fun W hW => Holds_any z (by omega) ra _ _ W (HVA3.out.below hW) (by have := HZA.out; omega) ((HG.out.keep HB3.out (Nat.le_refl _)).keep hW (Nat.le_refl _)))
  have HHB : Hid (∀ W, Below w3.heap.size w3 W → Calls Tryz.prog 8 #[.pointer (some pb), .agg #[.string z.name, .string z.maker, .string z.tags, .int .i64 z.stock, .int .i64 z.price, .int .i64 z.born, .bool z.listed, .int .i64 z.now, .int .i64 z.age, .int .i64 z.fans, .bool z.follows, .bool z.done]] W (ROf (holdsR (fzX z) rb) W)) := Lib.hid (fun W hW => Holds_any z (by omega) rb _ _ W (HVB.out.below hW) (by have := HZB.out; omega) ((HG.out.keep HB3.out (Nat.le_refl _)).keep hW (Nat.le_refl _)))
  have HNS : Hid (∀ i c r, Says (ntT s t i) (some r) c → holdsR (fzX z) r = ntE (holdsR (fzX z) ra) (holdsR (fzX z) rb) i) := Lib.hid (fun i c r hr => nt_says HSA.out HSB.out hr (fzX z))
  obtain ⟨x, hx⟩ : ∃ x, holdsR (fzX z) ra = x := ⟨_, rfl⟩
  obtain ⟨y, hy⟩ : ∃ y, holdsR (fzX z) rb = y := ⟨_, rfl⟩
  rw [hx] at HHA HNS
  rw [hy] at HHB HNS
  clear hx hy HA3
  have HSC : Hid (∀ W, Below w3.heap.size w3 W → Blk W w.heap.size FAC (fzA z)) := Lib.hid (fun W hW => HBF3.out.under hW)
  have HS0 : Hid (Below w3.heap.size w3 w3.drew) := Lib.hid (below_drew (Below.refl _ _))
  simp only [errOf, Option.isNone_some]
  go_upto_region 9 with fail
  refine wp_plan (fun V => Below w3.heap.size w3 V) [(0, false), (1, false), (3, false), (4, false), (2, true), (5, true), (6, false), (7, false)] (by kernel_rfl) (by kernel_rfl) HS0.out ?_
  simp only [planL, List.getElem?_cons_zero, List.getElem?_cons_succ]
  repeat (first | (refine plan_on _ (by rfl) (fun W hW => by (obtain ⟨c0, c1, c2, c3, c4, c5, c6, c7, c8, c9, c10, c11⟩ := fz_all (HSC.out W hW); go_simp; try (first | with_reducible rfl | rw [if_neg (by omega)]))) ?_; simp only [Act.put, List.setIfInBounds_toArray, List.set_cons_zero, List.set_cons_succ]) | (refine plan_off (by rfl) ?_; simp only [Act.put, List.setIfInBounds_toArray, List.set_cons_zero, List.set_cons_succ]))
  refine plan_turn ?_
  have HC1 := Lib.hid (HHA.out _ HS0.out)
  go_wp2_with fail
  refine HC1.out.mono ?_
  rintro e x1 ⟨rfl, hx⟩
  have HX1 : Hid (Below w3.heap.size w3 x1) := Lib.hid (HS0.out.trans (hx.mono HS0.out.size))
  clear hx HC1
  go_wp2_with fail
  refine ⟨HX1.out, ?_⟩
  repeat (first | (refine plan_on _ (by rfl) (fun W hW => by (obtain ⟨c0, c1, c2, c3, c4, c5, c6, c7, c8, c9, c10, c11⟩ := fz_all (HSC.out W hW); go_simp; try (first | with_reducible rfl | rw [if_neg (by omega)]))) ?_; simp only [Act.put, List.setIfInBounds_toArray, List.set_cons_zero, List.set_cons_succ]) | (refine plan_off (by rfl) ?_; simp only [Act.put, List.setIfInBounds_toArray, List.set_cons_zero, List.set_cons_succ]))
  refine plan_turn ?_
  have HC2 := Lib.hid (HHB.out _ HX1.out)
  go_wp2_with fail
  refine HC2.out.mono ?_
  rintro e x2 ⟨rfl, hx⟩
  have HX2 : Hid (Below w3.heap.size w3 x2) := Lib.hid (HX1.out.trans (hx.mono HX1.out.size))
  clear hx HC2
  go_wp2_with fail
  refine ⟨HX2.out, ?_⟩
  repeat (first | (refine plan_on _ (by rfl) (fun W hW => by (obtain ⟨c0, c1, c2, c3, c4, c5, c6, c7, c8, c9, c10, c11⟩ := fz_all (HSC.out W hW); go_simp; try (first | with_reducible rfl | rw [if_neg (by omega)]))) ?_; simp only [Act.put, List.setIfInBounds_toArray, List.set_cons_zero, List.set_cons_succ]) | (refine plan_off (by rfl) ?_; simp only [Act.put, List.setIfInBounds_toArray, List.set_cons_zero, List.set_cons_succ]))
  refine plan_done ?_
  obtain ⟨w5, hw5⟩ : ∃ w5, x2.alloc (.cells #[.string (⟨#[110, 111, 116, 32, 40]⟩ ++ s ++ ⟨#[41]⟩), .string (⟨#[40]⟩ ++ s ++ ⟨#[41, 32, 97, 110, 100, 32, 40]⟩ ++ t ++ ⟨#[41]⟩), .string (⟨#[40]⟩ ++ s ++ ⟨#[41, 111, 114, 40]⟩ ++ t ++ ⟨#[41]⟩)] 9) = w5 := ⟨_, rfl⟩
  have HBT : Hid (Blk w5 x2.heap.size 9 #[.string (⟨#[110, 111, 116, 32, 40]⟩ ++ s ++ ⟨#[41]⟩), .string (⟨#[40]⟩ ++ s ++ ⟨#[41, 32, 97, 110, 100, 32, 40]⟩ ++ t ++ ⟨#[41]⟩), .string (⟨#[40]⟩ ++ s ++ ⟨#[41, 111, 114, 40]⟩ ++ t ++ ⟨#[41]⟩)]) := Lib.hid (by rw [← hw5]; exact Blk.new _ _ _)
  have k5 : Below x2.heap.size x2 w5 := by rw [← hw5]; exact (Below.refl _ _).alloc (Nat.le_refl _) _
  have HB5 : Hid (Below w.heap.size w w5) := Lib.hid ((HB3.out.trans (HX2.out.mono HB3.out.size)).trans (k5.mono (by have h1 := HB3.out.size; have h2 := HX2.out.size; omega)))
  have HF5 : Hid (Blk w5 w.heap.size FAC (fzA z)) := Lib.hid ((HSC.out _ HX2.out).under k5)
  have HTC : Hid (∀ i, i < 3 → w5.cell? ⟨x2.heap.size, i, none⟩ = some (.string (ntT s t i))) := Lib.hid (fun i hi => (HBT.out.cell i).trans (ntT_at s t hi))
  have HTX : Hid (x2.heap.size < w5.heap.size) := Lib.hid HBT.out.lt
  clear k5
  have y1 : (⟨#[110, 111, 116, 32, 40]⟩ ++ s : ByteArray).size = 5 + s.size := by rw [ByteArray.size_append]; rfl
  have y2 : (⟨#[40]⟩ ++ s : ByteArray).size = 1 + s.size := by rw [ByteArray.size_append]; rfl
  have y3 : (⟨#[40]⟩ ++ s ++ ⟨#[41, 32, 97, 110, 100, 32, 40]⟩ : ByteArray).size = 1 + s.size + 7 := by rw [ByteArray.size_append, ByteArray.size_append]; rfl
  have y4 : (⟨#[40]⟩ ++ s ++ ⟨#[41, 111, 114, 40]⟩ : ByteArray).size = 1 + s.size + 4 := by rw [ByteArray.size_append, ByteArray.size_append]; rfl
  have y5 : (⟨#[40]⟩ ++ s ++ ⟨#[41, 32, 97, 110, 100, 32, 40]⟩ ++ t : ByteArray).size = 1 + s.size + 7 + t.size := by rw [ByteArray.size_append, ByteArray.size_append, ByteArray.size_append]; rfl
  have y6 : (⟨#[40]⟩ ++ s ++ ⟨#[41, 111, 114, 40]⟩ ++ t : ByteArray).size = 1 + s.size + 4 + t.size := by rw [ByteArray.size_append, ByteArray.size_append, ByteArray.size_append]; rfl
  go_wp2_with fail
  clear hw5 y1 y2 y3 y4 y5 y6
  go_loopw [101] (fun i wr => ∃ q : Nat, q ≤ 3 ∧ i = .int .i64 q ∧ Hid (Below w5.heap.size w5 wr)) (fun i _ => 3 - (intOf i).toNat)
  case atStart => exact ⟨0, by omega, rfl, Lib.hid (Below.refl _ _)⟩
  case round =>
    obtain ⟨q, hq, rfl, hbw⟩ := hrel
    by_cases hlt : q < 3
    · have q8 : (q : Int) < 3 := by omega
      have q9 : (0 : Int) ≤ (q : Int) := by omega
      have e0 : wr.cell? ⟨x2.heap.size, q, none⟩ = some (.string (ntT s t q)) := by rw [hbw.out.cell HTX.out]; exact HTC.out q hlt
      have hut := ntT_sz s t q
      have HSN : Hid (∀ c r, Says (ntT s t q) (some r) c → holdsR (fzX z) r = ntE x y q) := Lib.hid (HNS.out q)
      obtain ⟨u, hu⟩ : ∃ u, ntT s t q = u := ⟨_, rfl⟩
      rw [hu] at e0 hut HSN
      have HBR := Lib.hid (HB5.out.trans (hbw.out.mono HB5.out.size))
      have HPU := Lib.hid (parse_any u wr (by omega) (HLB.out.below HBR.out).all)
      clear hu
      go_wp2_with fail
      refine HPU.out.mono ?_
      rintro e w6 ⟨r, at6, v6, hsy, rfl, hv, hb⟩
      have HSY := Lib.hid hsy
      have HB6 := Lib.hid (hbw.out.trans (hb.mono hbw.out.size))
      have HV6 := Lib.hid hv
      have HD := Lib.hid (dparse_any u w6 (by omega))
      clear hsy hv hb HPU e0
      go_wp2_with fail
      refine HD.out.mono ?_
      rintro e w7 ⟨r', a', v, hsy, rfl, hdr, hb2⟩
      obtain ⟨rfl, rfl⟩ := hsy.det HSY.out
      have HB7 := Lib.hid (HB6.out.trans (hb2.mono HB6.out.size))
      have HV7 : Hid (RuleV w7 wr.heap.size r' v6) := Lib.hid (HV6.out.below hb2)
      clear hsy hdr hb2 HD HV6
      obtain ⟨w8, hw8⟩ : ∃ w8, w7.alloc (.cells #[.int .i64 0, .slice none 0 0, .string ⟨#[]⟩] NOA) = w8 := ⟨_, rfl⟩
      obtain ⟨w9, hw9⟩ : ∃ w9, ((w8.setCell ⟨w7.heap.size, 0, none⟩ (.int .i64 v.k)).setCell ⟨w7.heap.size, 1, none⟩ (.slice v.A v.m v.c)).setCell ⟨w7.heap.size, 2, none⟩ (.string v.s) = w9 := ⟨_, rfl⟩
      have H9 := Lib.hid (set3_new w7 w8 w9 _ _ _ hw8 hw9)
      have HB9 := Lib.hid (HB7.out.trans (H9.out.2.1.mono HB7.out.size))
      have b8 : Blk w8 w7.heap.size NOA #[.int .i64 0, .slice none 0 0, .string ⟨#[]⟩] := by rw [← hw8]; exact Blk.new _ _ _
      obtain ⟨m0, m1, m2, p0, p1, p2⟩ := b8.at3
      clear b8
      rcases rulev_shape3 HV7.out with ⟨rfl, rfl⟩ | ⟨r, p, rfl, rfl⟩
      · simp only [errOf, Option.isNone_none, Option.isSome_none]
        go_wp2_with fail
        go_roundw
        case rel => exact ⟨q + 1, by omega, by go_num, HB9⟩
        case measure => simp [intOf]; omega
      · have HZR := Lib.hid HSY.out.sz
        have HBA := Lib.hid (HB5.out.trans (HB9.out.mono HB5.out.size))
        have HHR : Hid (Calls Tryz.prog 8 #[.pointer (some p), .agg #[.string z.name, .string z.maker, .string z.tags, .int .i64 z.stock, .int .i64 z.price, .int .i64 z.born, .bool z.listed, .int .i64 z.now, .int .i64 z.age, .int .i64 z.fans, .bool z.follows, .bool z.done]] w9 (ROf (ntE x y q) w9)) := Lib.hid (by
          have := Holds_any z (by omega) r _ _ w9 (HV7.out.below H9.out.2.1) (by have := HZR.out; omega) (HG.out.keep HBA.out (Nat.le_refl _))
          rwa [HSN.out _ _ HSY.out] at this)
        have HF9 := Lib.hid (HF5.out.under HB9.out)
        obtain ⟨g0, g1, g2, g3, g4, g5, g6, g7, g8, g9, g10, g11⟩ := fz_all HF9.out
        obtain ⟨bi, hbi⟩ : ∃ bi, ntE x y q = bi := ⟨_, rfl⟩
        have HBI := Lib.hid hbi
        rw [hbi] at HHR
        have hne : (bi != bi) = false := by simp
        clear hbi
        simp only [errOf, Option.isNone_some, Option.isSome_some]
        cases x <;> cases y
        · go_wp2_with fail
          refine HHR.out.mono ?_
          rintro e w10 ⟨rfl, hb⟩
          have HB10 := Lib.hid (HB9.out.trans (hb.mono HB9.out.size))
          clear hb g0 g1 g2 g3 g4 g5 g6 g7 g8 g9 g10 g11 hw8 hw9 m0 m1 m2 p0 p1 p2
          obtain ⟨w11, hw11⟩ : ∃ w11, w10.alloc (.cells #[.bool true, .bool false, .bool false] 4) = w11 := ⟨_, rfl⟩
          have k11 : Below w10.heap.size w10 w11 := by rw [← hw11]; exact (Below.refl _ _).alloc (Nat.le_refl _) _
          have HB11 := Lib.hid (HB10.out.trans (k11.mono HB10.out.size))
          have e9 : w11.cell? ⟨w10.heap.size, q, none⟩ = some (.bool bi) := by
            have h := (show Blk w11 w10.heap.size 4 #[.bool true, .bool false, .bool false] by rw [← hw11]; exact Blk.new _ _ _).cell q
            rw [h, ← HBI.out]
            exact ntE_at false false hlt
          clear k11
          go_wp2_with fail
          go_roundw
          case rel => exact ⟨q + 1, by omega, by go_num, HB11⟩
          case measure => simp [intOf]; omega
        · go_wp2_with fail
          refine HHR.out.mono ?_
          rintro e w10 ⟨rfl, hb⟩
          have HB10 := Lib.hid (HB9.out.trans (hb.mono HB9.out.size))
          clear hb g0 g1 g2 g3 g4 g5 g6 g7 g8 g9 g10 g11 hw8 hw9 m0 m1 m2 p0 p1 p2
          obtain ⟨w11, hw11⟩ : ∃ w11, w10.alloc (.cells #[.bool true, .bool false, .bool true] 4) = w11 := ⟨_, rfl⟩
          have k11 : Below w10.heap.size w10 w11 := by rw [← hw11]; exact (Below.refl _ _).alloc (Nat.le_refl _) _
          have HB11 := Lib.hid (HB10.out.trans (k11.mono HB10.out.size))
          have e9 : w11.cell? ⟨w10.heap.size, q, none⟩ = some (.bool bi) := by
            have h := (show Blk w11 w10.heap.size 4 #[.bool true, .bool false, .bool true] by rw [← hw11]; exact Blk.new _ _ _).cell q
            rw [h, ← HBI.out]
            exact ntE_at false true hlt
          clear k11
          go_wp2_with fail
          go_roundw
          case rel => exact ⟨q + 1, by omega, by go_num, HB11⟩
          case measure => simp [intOf]; omega
        · go_wp2_with fail
          refine HHR.out.mono ?_
          rintro e w10 ⟨rfl, hb⟩
          have HB10 := Lib.hid (HB9.out.trans (hb.mono HB9.out.size))
          clear hb g0 g1 g2 g3 g4 g5 g6 g7 g8 g9 g10 g11 hw8 hw9 m0 m1 m2 p0 p1 p2
          obtain ⟨w11, hw11⟩ : ∃ w11, w10.alloc (.cells #[.bool false, .bool false, .bool true] 4) = w11 := ⟨_, rfl⟩
          have k11 : Below w10.heap.size w10 w11 := by rw [← hw11]; exact (Below.refl _ _).alloc (Nat.le_refl _) _
          have HB11 := Lib.hid (HB10.out.trans (k11.mono HB10.out.size))
          have e9 : w11.cell? ⟨w10.heap.size, q, none⟩ = some (.bool bi) := by
            have h := (show Blk w11 w10.heap.size 4 #[.bool false, .bool false, .bool true] by rw [← hw11]; exact Blk.new _ _ _).cell q
            rw [h, ← HBI.out]
            exact ntE_at true false hlt
          clear k11
          go_wp2_with fail
          go_roundw
          case rel => exact ⟨q + 1, by omega, by go_num, HB11⟩
          case measure => simp [intOf]; omega
        · go_wp2_with fail
          refine HHR.out.mono ?_
          rintro e w10 ⟨rfl, hb⟩
          have HB10 := Lib.hid (HB9.out.trans (hb.mono HB9.out.size))
          clear hb g0 g1 g2 g3 g4 g5 g6 g7 g8 g9 g10 g11 hw8 hw9 m0 m1 m2 p0 p1 p2
          obtain ⟨w11, hw11⟩ : ∃ w11, w10.alloc (.cells #[.bool false, .bool true, .bool true] 4) = w11 := ⟨_, rfl⟩
          have k11 : Below w10.heap.size w10 w11 := by rw [← hw11]; exact (Below.refl _ _).alloc (Nat.le_refl _) _
          have HB11 := Lib.hid (HB10.out.trans (k11.mono HB10.out.size))
          have e9 : w11.cell? ⟨w10.heap.size, q, none⟩ = some (.bool bi) := by
            have h := (show Blk w11 w10.heap.size 4 #[.bool false, .bool true, .bool true] by rw [← hw11]; exact Blk.new _ _ _).cell q
            rw [h, ← HBI.out]
            exact ntE_at true true hlt
          clear k11
          go_wp2_with fail
          go_roundw
          case rel => exact ⟨q + 1, by omega, by go_num, HB11⟩
          case measure => simp [intOf]; omega
    · have q8 : ¬ (q : Int) < 3 := by omega
      have HBR := Lib.hid (HB5.out.trans (hbw.out.mono HB5.out.size))
      have HAR := Lib.hid (HAW.out wr HBR.out)
      go_wp2_with fail
      refine HAR.out.mono ?_
      rintro e w6 ⟨rfl, hb⟩
      have HB6 := Lib.hid (HBR.out.trans (hb.mono HBR.out.size))
      clear hb
      go_wp2_with fail
      go_ret
      exact ⟨rfl, HB6.out⟩
end Go.Proofs.YtpgbgeofhcpocaaGreatDoor
