/- What the laws ask of a world; FilterFirst. -/
import Derived.Test.YthdmpcnnbminlaaGreatDoorBs
namespace Go.Proofs.YthdmpcnnbminlaaGreatDoor
open Go.Shelf Go.RowKit Go.Maps
open Ru (Fz fzA fzX Nd holdsR RuleV ruleT Says errOf ErrAt TabAt)
set_option linter.unusedVariables false

theorem fz_tags {E : List Ev} {p i : ByteArray} {now : Int} (hall : ∀ e ∈ E, EvOk e) (hi : i.size ≤ 300) : (fzOf E p i now).tags.size ≤ 300 := by
  show ((Ct.atP (thgs E) i now).getD Ct.it0).tags.size ≤ 300
  cases ha : Ct.atP (thgs E) i now with
  | none => exact Nat.zero_le _
  | some x => exact (at_ok (fun e he => (hall e he).1) (fun e he => (hall e he).2) hi ha).tags
/-- What the laws know of a world that was made. -/
structure WsAt (w : World) (wb : Nat) (c : Cfg) (E : List Ev) : Prop where
  at_ : ∃ ct cr, WrAt w wb ct cr c E
  ok : ∀ e ∈ E, EvOk e
  few : E.length ≤ 40
theorem WsAt.below {w w' : World} {wb : Nat} {c : Cfg} {E : List Ev} (h : WsAt w wb c E) (k : Below w.heap.size w w') : WsAt w' wb c E := by
  obtain ⟨ct, cr, h1⟩ := h.at_
  exact ⟨⟨ct, cr, h1.below k⟩, h.ok, h.few⟩
theorem WsAt.of {w : World} {wb base : Nat} {c : Cfg} {E l : List Ev} (h : WorldAt w wb base c E) (ha : AnewIs fmtB l E) (hl : l.length ≤ 40) (hok : ∀ e ∈ l, EvOk e) : WsAt w wb c E :=
  ⟨h.read, fun e he => hok e (ha.sub he), Nat.le_trans ha.few hl⟩
noncomputable def whyF (E : List Ev) (p : ByteArray) (now : Int) (c : Cfg) (R : Option (Option Nd)) (x : ByteArray) : Nat := whyW E p x now c.crowd c.span R
theorem of_law {w : World} {wb B : Nat} {c : Cfg} {E : List Ev} {p : ByteArray} {now : Int} {R : Option (Option Nd)} {q : Option Addr} (h : WsAt w wb c E) (hr : RlIs w B R q) (hg : GlobAt w) (hp : p.size ≤ 300) (hnow : InR now) {x : ByteArray} (hx : x.size ≤ 300) : OfIs wb p now q (whyF E p now c R) x w := by
  obtain ⟨ct, cr, h1⟩ := h.at_
  exact of_any w wb ct cr c E p x now q (okP R) h1 (hr.asks hg) h.ok (by have := h.few; omega) hp hx hnow (fz_tags h.ok hx)
theorem facts_law {w : World} {wb : Nat} {c : Cfg} {E : List Ev} {p x : ByteArray} {now : Int} (h : WsAt w wb c E) (hp : p.size ≤ 300) (hnow : InR now) (hx : x.size ≤ 300) : Calls Tryz.prog 19 #[.pointer (some ⟨wb, 0, none⟩), .string p, .string x, .int .i64 now] w (FactsR E p x now w) := by
  obtain ⟨ct, cr, h1⟩ := h.at_
  exact facts_any w wb ct cr c E p x now h1 h.ok (by have := h.few; omega) hp hx hnow
theorem RlIs.holds {w : World} {B : Nat} {R : Option (Option Nd)} {q : Option Addr} (h : RlIs w B R q) (hg : GlobAt w) (z : Fz) (hz : z.tags.size ≤ 300) : Calls Tryz.prog 28 #[.pointer q, .agg (fzA z)] w (Ru.ROf (okP R z) w) := h.asks hg w (Below.refl _ _) z hz
/-- A rule is asked last. -/
theorem whyP_six {z : Fz} {hid : Bool} {crowd span : Int} {ok : Bool} (h : whyP z hid crowd span ok = 6) : ok = false ∧ whyP z hid crowd span true = 0 := by
  rw [whyP_fst] at h ⊢
  unfold rowL at h ⊢
  revert h
  generalize (!z.listed) = a0
  generalize decide (z.stock = 0) = a1
  generalize z.done = a3
  generalize (decide (z.fans < crowd) && decide (span < z.age)) = a4
  cases a0 <;> cases a1 <;> cases hid <;> cases a3 <;> cases a4 <;> cases ok <;> decide
theorem whyP_not6 {z : Fz} {hid : Bool} {crowd span : Int} {ok : Bool} (h : whyP z hid crowd span ok ≠ 6) : whyP z hid crowd span ok = whyP z hid crowd span true ∧ (whyP z hid crowd span ok = 0 → ok = true) := by
  rw [whyP_fst] at h ⊢
  rw [whyP_fst]
  unfold rowL at h ⊢
  revert h
  generalize (!z.listed) = a0
  generalize decide (z.stock = 0) = a1
  generalize z.done = a3
  generalize (decide (z.fans < crowd) && decide (span < z.age)) = a4
  cases a0 <;> cases a1 <;> cases hid <;> cases a3 <;> cases a4 <;> cases ok <;> decide
theorem okP_none (z : Fz) : okP none z = true := rfl
def TrueR (w : World) (e : Ending) (w' : World) : Prop := e = .returned (.bool true) ∧ Below w.heap.size w w'
/-- What the laws are handed. -/
structure LawIn (w : World) (c : Cfg) (A : Option Addr) (n cp : Nat) (l : List Ev) : Prop where
  arg : EvArg w A n cp l
  lib : LbAt w
  nm : FnAt w
set_option maxHeartbeats 8000000 in
set_option maxRecDepth 100000 in
theorem filterFirst_walk (c : Cfg) (A : Option Addr) (n cp : Nat) (l : List Ev) (p i : ByteArray) (now : Int) (s : ByteArray) (w : World) (h : LawIn w c A n cp l) (hp : p.size ≤ 281474976710656) (hi : i.size ≤ 281474976710656) (hnow : InR now) (hs : s.size ≤ 281474976710656) :
    Calls Tryz.prog 6 #[cfgA c, .slice A n cp, .string p, .string i, .int .i64 now, .string s] w (TrueR w) := by
  obtain ⟨w1, hw1⟩ : ∃ w1, w.alloc (.cells (cfgArr c) 23) = w1 := ⟨_, rfl⟩
  have be1 : Hid (Blk w1 w.heap.size 23 (cfgArr c)) := Lib.hid (by rw [← hw1]; exact Blk.new _ _ _)
  have HB1 : Hid (Below w.heap.size w w1) := Lib.hid (by rw [← hw1]; exact (Below.refl _ _).alloc (Nat.le_refl _) _)
  have HLV := Lib.hid (lives_any w1 (h.lib.keep HB1.out) (h.nm.keep HB1.out))
  have HL := Lib.hid h.lib
  obtain ⟨hn, hl, hb, _, hbd⟩ := h.arg
  have HAR := Lib.hid (And.intro hn (And.intro hl (And.intro hb hbd)))
  have HNOW := Lib.hid hnow
  have HS := Lib.hid hs
  unfold cfgA
  unfold cfgArr at hw1
  clear h hn hl hb hbd hnow hs
  go_enter Tryz.func6, Tryz.ntmps6
  go_wp2_with fail
  refine HLV.out.mono ?_
  rintro e w2 ⟨rfl, hb2⟩
  have HB2 : Hid (Below w.heap.size w w2) := Lib.hid (HB1.out.trans (hb2.mono HB1.out.size))
  have HE2 : Hid (Blk w2 w.heap.size 23 (cfgArr c)) := Lib.hid ((hb2.block _ be1.out.lt).trans be1.out)
  have hld := load_cfg HE2.out
  have y0 : w2.cell? ⟨w.heap.size, 0, none⟩ = some (.int .i64 c.half) := HE2.out.cell 0
  have y1 : w2.cell? ⟨w.heap.size, 1, none⟩ = some (.int .i64 c.width) := HE2.out.cell 1
  have y2 : w2.cell? ⟨w.heap.size, 2, none⟩ = some (.int .i64 c.gap) := HE2.out.cell 2
  have y3 : w2.cell? ⟨w.heap.size, 3, none⟩ = some (.int .i64 c.span) := HE2.out.cell 3
  have y4 : w2.cell? ⟨w.heap.size, 4, none⟩ = some (.int .i64 c.floor) := HE2.out.cell 4
  have y5 : w2.cell? ⟨w.heap.size, 5, none⟩ = some (.int .i64 c.crowd) := HE2.out.cell 5
  have HMD := Lib.hid (made_any c w2 w.heap.size A l n cp HAR.out.1 (HAR.out.2.1.below HB2.out) HB2.out.size HAR.out.2.2.1 HAR.out.2.2.2 (fun V hV => by have k := HL.out.keep (HB2.out.trans (hV.mono HB2.out.size)); exact ⟨k.g, k.k, k.t⟩))
  unfold cfgA at HMD
  clear hb2 HLV hw1 be1 hld
  go_wp2_with fail
  refine HMD.out.mono ?_
  rintro e w3 ⟨hm3, hb3⟩
  have HB3 : Hid (Below w.heap.size w w3) := Lib.hid (HB2.out.trans (hb3.mono HB2.out.size))
  have HPA := Lib.hid (parsed_any s w3 HS.out (HL.out.keep HB3.out))
  clear hb3 HMD y0 y1 y2 y3 y4 y5 HE2
  rcases hm3 with rfl | ⟨wb, base, E, rfl, ha, hwa, hba, hco, hl40, hok⟩
  · go_wp2_with fail
    refine HPA.out.mono ?_
    rintro e w4 ⟨q, b, rfl, _, hb4⟩
    have HB4 : Hid (Below w.heap.size w w4) := Lib.hid (HB3.out.trans (hb4.mono HB3.out.size))
    clear hb4 HPA
    go_wp2_with fail
    go_ret
    exact ⟨rfl, HB4.out⟩
  have HWS := Lib.hid (WsAt.of hwa ha hl40 hok)
  clear ha hwa hba hco hl40 hok
  go_wp2_with fail
  refine HPA.out.mono ?_
  rintro e w4 ⟨q, b, rfl, hR, hb4⟩
  have HB4 : Hid (Below w.heap.size w w4) := Lib.hid (HB3.out.trans (hb4.mono HB3.out.size))
  have HW4 := Lib.hid (HWS.out.below hb4)
  have HR := Lib.hid hR
  clear hb4 HPA hR
  cases b with
  | false =>
    go_wp2_with fail
    go_ret
    exact ⟨rfl, HB4.out⟩
  | true =>
  obtain ⟨R, hR⟩ := HR.out rfl
  by_cases h3 : (300 : Int) < (p.size : Int)
  · clear hR
    go_wp2_with fail
    go_ret
    exact ⟨rfl, HB4.out⟩
  by_cases h4 : (300 : Int) < (i.size : Int)
  · clear hR
    go_wp2_with fail
    go_ret
    exact ⟨rfl, HB4.out⟩
  have d3 : decide ((300 : Int) < (p.size : Int)) = false := decide_eq_false h3
  have d4 : decide ((300 : Int) < (i.size : Int)) = false := decide_eq_false h4
  have HP : Hid (p.size ≤ 300) := Lib.hid (by omega)
  have HI : Hid (i.size ≤ 300) := Lib.hid (by omega)
  have HRR := Lib.hid hR
  have HOF := Lib.hid (of_law HW4.out hR (HL.out.keep HB4.out).g HP.out HNOW.out HI.out)
  have HON : Hid (∀ W, Below w4.heap.size w4 W → OfIs wb p now none (whyF E p now c none) i W) := Lib.hid (fun W hb => of_law (B := 0) (R := none) (HW4.out.below hb) rfl (HL.out.keep (HB4.out.trans (hb.mono HB4.out.size))).g HP.out HNOW.out HI.out)
  have HFA : Hid (∀ W, Below w4.heap.size w4 W → Calls Tryz.prog 19 #[.pointer (some ⟨wb, 0, none⟩), .string p, .string i, .int .i64 now] W (FactsR E p i now W)) := Lib.hid (fun W hb => facts_law (HW4.out.below hb) HP.out HNOW.out HI.out)
  have HTG : Hid ((fzOf E p i now).tags.size ≤ 300) := Lib.hid (fz_tags HW4.out.ok HI.out)
  have HHO : Hid (∀ W, Below w4.heap.size w4 W → Calls Tryz.prog 28 #[.pointer q, .agg (fzA (fzOf E p i now))] W (Ru.ROf (okP R (fzOf E p i now)) W)) := Lib.hid (fun W hb => (HRR.out.below hb).holds (HL.out.keep (HB4.out.trans (hb.mono HB4.out.size))).g _ HTG.out)
  obtain ⟨y, hy⟩ : ∃ y : Nat, whyF E p now c R i = y := ⟨_, rfl⟩
  obtain ⟨x, hx⟩ : ∃ x : Nat, whyF E p now c none i = x := ⟨_, rfl⟩
  obtain ⟨ok, hok⟩ : ∃ ok, okP R (fzOf E p i now) = ok := ⟨_, rfl⟩
  have H6 : Hid (y = 6 → ok = false ∧ x = 0) := Lib.hid (fun e => by
    subst hy; subst hx; subst hok
    exact whyP_six e)
  have HN6 : Hid (y ≠ 6 → y = x ∧ (y = 0 → ok = true)) := Lib.hid (fun e => by
    subst hy; subst hx; subst hok
    exact whyP_not6 e)
  have HQ : Hid (q = none → ok = true) := Lib.hid (fun e => by
    cases R with
    | none => exact hok.symm
    | some r => exact absurd e HRR.out.1)
  unfold OfIs at HOF HON
  rw [hy] at HOF
  rw [hx] at HON
  rw [hok] at HHO
  clear hy hx hok hR h3 h4 HRR HR HWS
  go_wp2_with fail
  refine HOF.out.mono ?_
  rintro e w5 ⟨rfl, hb5⟩
  have HC5 : Hid (Below w4.heap.size w4 w5) := Lib.hid hb5
  have HC := Lib.hid (HON.out w5 hb5)
  clear hb5 HOF HON
  go_wp2_with fail
  refine HC.out.mono ?_
  rintro e w6 ⟨rfl, hb6⟩
  have HC6 : Hid (Below w4.heap.size w4 w6) := Lib.hid (HC5.out.trans (hb6.mono HC5.out.size))
  have HF := Lib.hid (HFA.out w6 HC6.out)
  have HBF : Hid (∀ W, Below w4.heap.size w4 W → Below w.heap.size w W) := Lib.hid (fun W hb => HB4.out.trans (hb.mono HB4.out.size))
  clear hb6 HC HFA
  unfold FactsR at HF
  by_cases h6 : y = 6
  · obtain ⟨rfl, rfl⟩ := H6.out h6
    subst h6
    have hqn : q ≠ none := fun e => by have := HQ.out e; cases this
    obtain ⟨⟨gq, oq, mq⟩, rfl⟩ := Option.ne_none_iff_exists'.1 hqn
    have hz6 : ((6 : Nat) : Int) = 6 := rfl
    have hz0 : ((0 : Nat) : Int) = 0 := rfl
    clear hqn
    go_wp2_with fail
    refine HF.out.mono ?_
    rintro e w7 ⟨rfl, hb7⟩
    have HC7 : Hid (Below w4.heap.size w4 w7) := Lib.hid (HC6.out.trans (hb7.mono HC6.out.size))
    have HH := Lib.hid (HHO.out w7 HC7.out)
    clear hb7 HF HHO
    go_wp2_with fail
    refine HH.out.mono ?_
    rintro e w8 ⟨rfl, hb8⟩
    have HC8 : Hid (Below w4.heap.size w4 w8) := Lib.hid (HC7.out.trans (hb8.mono HC7.out.size))
    clear hb8 HH
    go_wp2_with fail
    go_ret
    exact ⟨rfl, HBF.out w8 HC8.out⟩
  · obtain ⟨rfl, hok⟩ := HN6.out h6
    have hz6 : ((y : Int) == 6) = false := by rw [Bool.eq_false_iff]; intro e; have := beq_iff_eq.1 e; omega
    clear h6
    by_cases h0 : y = 0
    · subst h0
      obtain rfl := hok rfl
      have hz0 : ((0 : Nat) : Int) = 0 := rfl
      clear hok
      cases q with
      | none =>
        go_wp2_with fail
        go_ret
        exact ⟨rfl, HBF.out w6 HC6.out⟩
      | some a =>
        obtain ⟨gq, oq, mq⟩ := a
        go_wp2_with fail
        refine HF.out.mono ?_
        rintro e w7 ⟨rfl, hb7⟩
        have HC7 : Hid (Below w4.heap.size w4 w7) := Lib.hid (HC6.out.trans (hb7.mono HC6.out.size))
        have HH := Lib.hid (HHO.out w7 HC7.out)
        clear hb7 HF HHO
        go_wp2_with fail
        refine HH.out.mono ?_
        rintro e w8 ⟨rfl, hb8⟩
        have HC8 : Hid (Below w4.heap.size w4 w8) := Lib.hid (HC7.out.trans (hb8.mono HC7.out.size))
        clear hb8 HH
        go_wp2_with fail
        go_ret
        exact ⟨rfl, HBF.out w8 HC8.out⟩
    · have hz0 : ((y : Int) != 0) = true := by rw [bne_iff_ne]; omega
      clear h0 hok
      go_wp2_with fail
      go_ret
      exact ⟨rfl, HBF.out w6 HC6.out⟩
end Go.Proofs.YthdmpcnnbminlaaGreatDoor
