/- The laws of rules: the chapter's examples. -/
import Derived.Test.YtpgbgeofhcpocaaGreatDoorDrU
import Derived.Test.YtpgbgeofhcpocaaGreatDoorRuO2
namespace Go.Proofs.YtpgbgeofhcpocaaGreatDoor
open Go.RowKit Go.Maps Go.Shelf
set_option linter.unusedVariables false

theorem tx_len (ts : List Tk) : (tx ts).length = ts.length := by unfold tx; rw [List.length_map]
/-- What parsing says is one thing. -/
theorem Says.det {s : ByteArray} {r r' : Option (Option Nd)} {a a' : Nat} (h : Says s r a) (h' : Says s r' a') : r = r' ∧ a = a' := by
  cases h with
  | long h =>
    cases h' with
    | long _ => exact ⟨rfl, rfl⟩
    | empty h2 _ => omega
    | good h2 _ _ => omega
    | bad h2 _ _ _ => omega
  | empty h h0 =>
    cases h' with
    | long h2 => omega
    | empty _ _ => exact ⟨rfl, rfl⟩
    | good _ h2 _ => exact absurd h0 h2
    | bad _ h2 _ _ => exact absurd h0 h2
  | @good ns h h0 hp =>
    cases h' with
    | long h2 => omega
    | empty _ h2 => exact absurd h2 h0
    | good _ _ hp2 => obtain ⟨_, _, e⟩ := hp.det hp2; rw [e rfl]; exact ⟨rfl, rfl⟩
    | @bad ok j ns2 _ _ hp2 hn =>
      obtain ⟨rfl, e, _⟩ := hp.det hp2
      rcases hn with hn | hn
      · cases hn
      · exfalso
        have := congrArg List.length e
        rw [tx_len] at this
        exact hn (List.length_eq_zero_iff.1 this.symm)
  | @bad ok j ns h h0 hp hn =>
    cases h' with
    | long h2 => omega
    | empty _ h2 => exact absurd h2 h0
    | @good ns2 _ _ hp2 =>
      obtain ⟨rfl, e, _⟩ := hp.det hp2
      rcases hn with hn | hn
      · cases hn
      · exfalso
        have := congrArg List.length e
        rw [tx_len] at this
        exact hn (List.length_eq_zero_iff.1 this)
    | @bad ok2 j2 ns2 _ _ hp2 hn2 =>
      obtain ⟨rfl, e, _⟩ := hp.det hp2
      have h1 := congrArg List.length e
      rw [tx_len, tx_len, List.length_drop, List.length_drop] at h1
      refine ⟨rfl, ?_⟩
      by_cases hj : j < (toks s).length
      · have : j = j2 := by omega
        rw [this]
      · rw [List.drop_eq_nil_of_le (by omega), List.drop_eq_nil_of_le (by omega)]
theorem NdAt.nf_rule {w : World} {B : Nat} {n : Nd} {v : Value} (h : RuleV w B (some (some n)) v) : NF n := h.1
def exA : ByteArray := ⟨#[116, 97, 103, 58, 115, 102, 32, 97, 110, 100, 32, 40, 32, 112, 114, 105, 99, 101, 60, 49, 48, 32, 111, 114, 32, 100, 111, 110, 101, 32, 41]⟩
def exB : ByteArray := ⟨#[100, 111, 110, 101, 32, 112, 114, 105, 99, 101, 32, 60, 32, 49, 48]⟩
def exN : Nd := .row 1 [.atom (.tag ⟨#[115, 102]⟩), .row 0 [.atom (.num 0 true 10), .atom .done]]
theorem dec10 : Lib.decDigits 10 = [49, 48] := by
  rw [Lib.decDigits, dif_neg (by decide), Lib.decDigits, dif_pos (by decide)]
  rfl
theorem exN_nf : NF exN := by
  refine .row (by omega) (fun n hn => ?_) (fun n hn l => ?_) (by decide)
  · simp at hn
    rcases hn with rfl | rfl
    · exact .atom (show nameB _ = true by decide)
    · refine .row (by omega) (fun n hn => ?_) (fun n hn l => ?_) (by decide)
      · simp at hn
        rcases hn with rfl | rfl
        · exact .atom ⟨by decide, by decide⟩
        · exact .atom trivial
      · simp at hn
        rcases hn with rfl | rfl <;> (intro e; cases e)
  · simp at hn
    rcases hn with rfl | rfl
    · intro e; cases e
    · intro e; injection e with e _; exact absurd e (by decide)
theorem leaf10 : leafT (.num 0 true 10) = ⟨#[112, 114, 105, 99, 101, 60, 49, 48]⟩ := by
  refine ba_ext ?_
  simp only [leafT, ba_app, digW_list, dec10]
  rfl
theorem exN_tk : tkN exN 1 = tkS exA := by
  simp only [exN, tkN, tkL, tkM, leaf10]
  rfl
theorem saysA : Says exA (some (some exN)) 0 := by
  have hd : 0 + dep exN 1 ≤ 40 := by decide
  obtain ⟨ns, hp, e⟩ := again_of exN_nf 0 0 (by omega) hd [] stop_nil
  rw [List.append_nil, show (0 : Nat) + 1 = 1 from rfl, exN_tk, ← toks_tk] at hp
  have hne : toks exA ≠ [] := by rw [Ne, toks_nil]; decide
  have := Says.good (s := exA) (by decide) hne hp
  rwa [e] at this
theorem textA : ruleT (some exN) = ⟨#[116, 97, 103, 58, 115, 102, 32, 97, 110, 100, 32, 40, 112, 114, 105, 99, 101, 60, 49, 48, 32, 111, 114, 32, 100, 111, 110, 101, 41]⟩ := by
  show ownB exN 0 = _
  refine ba_ext ?_
  unfold ownB
  simp only [exN, ownN, ownL, ownM, leaf10, List.toList_toArray]
  rfl
theorem toksB : toks exB = [(doneW, 0), (⟨#[112, 114, 105, 99, 101]⟩, 5), (⟨#[60]⟩, 11), (⟨#[49, 48]⟩, 13)] := by decide
theorem saysB : Says exB none 5 := by
  have h2 : P 2 0 (tx (toks exB)) true (tx ((toks exB).drop 1)) [.atom .done] := by
    rw [toksB]
    exact P.leaf (d := 0) (L := [doneW, ⟨#[112, 114, 105, 99, 101]⟩, ⟨#[60]⟩, ⟨#[49, 48]⟩]) (a := .done) ⟨trivial, rfl⟩
  have hh : hd (tx ((toks exB).drop 1)) = ⟨#[112, 114, 105, 99, 101]⟩ := by rw [toksB]; rfl
  have h1 := P.rlast (k := 1) (by omega) h2 (Or.inr (by rw [hh]; decide))
  have h0 := P.rlast (k := 0) (by omega) h1 (Or.inr (by rw [hh]; decide))
  have := Says.bad (s := exB) (j := 1) (by decide) (by rw [toksB]; simp) h0 (Or.inr (by rw [toksB]; simp))
  rwa [show place ((toks exB).drop 1) exB.size = 5 by rw [toksB]; rfl] at this
/-- The library's tables and errors, in all worlds behind. -/
def LibAt (w : World) : Prop := ErrAt w ∧ TabAt w
theorem LibAt.below {w w' : World} (h : LibAt w) (k : Below w.heap.size w w') : LibAt w' := ⟨h.1.keep k, h.2.keep k⟩
theorem LibAt.all {w : World} (h : LibAt w) : ∀ V, Below w.heap.size w V → ErrAt V ∧ TabAt V := fun V k => h.below k

set_option maxHeartbeats 4000000 in
set_option maxRecDepth 100000 in
theorem awake_any (w : World) (hL : LibAt w) : Calls Tryz.prog 5 #[] w fun e w' => e = .returned (.bool true) ∧ Below w.heap.size w w' := by
  have HLB := Lib.hid hL
  have HP1 : Hid (Calls Tryz.prog 6 #[.string ⟨#[116, 97, 103, 58, 115, 102, 32, 97, 110, 100, 32, 40, 32, 112, 114, 105, 99, 101, 60, 49, 48, 32, 111, 114, 32, 100, 111, 110, 101, 32, 41]⟩] w fun e w' => ParseR exA w e w') := Lib.hid (parse_any exA w (by decide) hL.all)
  clear hL
  go_enter Tryz.func5, Tryz.ntmps5
  go_wp2_with fail
  refine HP1.out.mono ?_
  rintro e w1 ⟨r1, a1, v1, hs1, rfl, hv1, hb1⟩
  obtain ⟨rfl, rfl⟩ := hs1.det saysA
  obtain ⟨hn1, g1, u1, rfl, hg1, hB1, hu1⟩ := hv1
  have HB1 := Lib.hid hb1
  have HLB1 := Lib.hid (HLB.out.below hb1)
  have HRV1 : Hid (RuleV w1 w.heap.size (some (some exN)) (.pointer (some ⟨g1, 0, none⟩))) := Lib.hid ⟨hn1, g1, u1, rfl, hg1, hB1, hu1⟩
  have HP2 : Hid (Calls Tryz.prog 6 #[.string ⟨#[100, 111, 110, 101, 32, 112, 114, 105, 99, 101, 32, 60, 32, 49, 48]⟩] w1 fun e w' => ParseR exB w1 e w') := Lib.hid (parse_any exB w1 (by decide) HLB1.out.all)
  clear hs1 hn1 hg1 hB1 hu1 hb1 HP1
  simp only [errOf, Option.isNone_some]
  go_wp2_with fail
  refine HP2.out.mono ?_
  rintro e w2 ⟨r2, a2, v2, hs2, rfl, hv2, hb2⟩
  obtain ⟨rfl, rfl⟩ := hs2.det saysB
  obtain rfl : v2 = .pointer none := hv2
  have HB2 := Lib.hid (HB1.out.trans (hb2.mono HB1.out.size))
  have HTX := Lib.hid (Text_any (some exN) w.heap.size _ w2 (HRV1.out.below hb2) (by rw [textA]; decide) (HLB1.out.below hb2).2)
  rw [textA] at HTX
  clear hs2 hb2 HP2 HRV1
  simp only [errOf, Option.isNone_none]
  go_wp2_with fail
  refine HTX.out.mono ?_
  rintro e w3 ⟨rfl, hb3⟩
  have HB3 := Lib.hid (HB2.out.trans (hb3.mono HB2.out.size))
  clear hb3
  go_wp2_with fail
  go_ret
  exact ⟨rfl, HB3.out⟩
end Go.Proofs.YtpgbgeofhcpocaaGreatDoor
