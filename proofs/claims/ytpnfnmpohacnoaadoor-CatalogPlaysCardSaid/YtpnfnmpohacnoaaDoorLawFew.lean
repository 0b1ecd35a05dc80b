/- few, made and awake of the laws. -/
import Derived.Test.YtpnfnmpohacnoaaDoorCatChg
import Derived.IntWalk
namespace Go.Proofs.YtpnfnmpohacnoaaDoor
open Go.Shelf Go.RowKit Go.Maps
set_option linter.unusedVariables false

/-- Texts that a machine can hold. -/
def EvBd (e : Ev) : Prop := e.src.size ≤ 281474976710656 ∧ e.person.size ≤ 281474976710656 ∧ e.item.size ≤ 281474976710656 ∧ e.text.size ≤ 281474976710656
def EvFew (e : Ev) : Prop := e.src.size + e.person.size + e.item.size + e.text.size ≤ 600
theorem EvFew.sh {e : Ev} (h : EvFew e) : EvSh e := by unfold EvFew at h; unfold EvSh; omega

set_option maxHeartbeats 2000000 in
set_option maxRecDepth 100000 in
theorem few_any (w : World) (B : Nat) (A : Option Addr) (l : List Ev) (n c : Nat) (hn : l.length = n) (hl : EvsAt w B A l) (hB : B ≤ w.heap.size) (hb : n ≤ 140737488355328) (hbd : ∀ e ∈ l, EvBd e) :
    Calls Tryd.prog 10 #[.slice A n c] w fun e w' => ∃ b : Bool, e = .returned (.bool b) ∧ (b = true → n ≤ 61 ∧ ∀ x ∈ l, EvFew x) ∧ ∃ q, w' = w.drewN q := by
  have HN := Lib.hid hn
  have HL := Lib.hid hl
  have HD := Lib.hid hbd
  clear hn hl hbd
  go_enter Tryd.func10, Tryd.ntmps10
  go_wp2_with fail
  go_loopw [3] (fun i wr => ∃ k q : Nat, k ≤ n ∧ k ≤ 61 ∧ i = .int .i64 k ∧ Hid (∀ j x, j < k → l[j]? = some x → EvFew x) ∧ wr = w.drewN q) (fun i _ => n - (intOf i).toNat)
  case atStart => exact ⟨0, 0, Nat.zero_le _, by omega, rfl, Lib.hid (fun j x hj => by omega), rfl⟩
  case round =>
    obtain ⟨k, q, hk, hk61, rfl, hok, rfl⟩ := hrel
    by_cases hlt : k < n
    · obtain ⟨x, hx⟩ : ∃ x, l[k]? = some x := ⟨l[k]'(by rw [HN.out]; exact hlt), List.getElem?_eq_getElem _⟩
      obtain ⟨g, o, rfl, _, hc⟩ := HL.out.at (by rw [HN.out]; omega)
      obtain ⟨e0, e1, e2, e3, e4, e5, e6, e7⟩ := hc k x hx
      obtain ⟨d0, d1, d2, d3⟩ := HD.out x (List.mem_of_getElem? hx)
      have HX := Lib.hid hx
      have hk8 : (k : Int) < (n : Int) := by omega
      have hk9 : (0 : Int) ≤ (k : Int) := by omega
      have i1 : IntKind.i64.wrap ((x.src.size : Int) + (x.person.size : Int)) = (x.src.size : Int) + (x.person.size : Int) := IntWalk.i64_in _ (by omega)
      have i2 : IntKind.i64.wrap ((x.src.size : Int) + (x.person.size : Int) + (x.item.size : Int)) = (x.src.size : Int) + (x.person.size : Int) + (x.item.size : Int) := IntWalk.i64_in _ (by omega)
      have i3 : IntKind.i64.wrap ((x.src.size : Int) + (x.person.size : Int) + (x.item.size : Int) + (x.text.size : Int)) = (x.src.size : Int) + (x.person.size : Int) + (x.item.size : Int) + (x.text.size : Int) := IntWalk.i64_in _ (by omega)
      clear hx hc e1 e2 e3 e6
      by_cases hs : (600 : Int) < (x.src.size : Int) + (x.person.size : Int) + (x.item.size : Int) + (x.text.size : Int)
      · have hd : decide ((600 : Int) < (x.src.size : Int) + (x.person.size : Int) + (x.item.size : Int) + (x.text.size : Int)) = true := decide_eq_true hs
        clear hs
        go_wp2_with fail
        go_quiet (fail)
        go_wp2_with fail
        go_ret
        exact ⟨false, rfl, (fun h => by cases h), q + nq, by simp⟩
      · have hd : decide ((600 : Int) < (x.src.size : Int) + (x.person.size : Int) + (x.item.size : Int) + (x.text.size : Int)) = false := decide_eq_false hs
        have HS : Hid (EvFew x) := Lib.hid (by unfold EvFew; omega)
        clear hs
        by_cases h60 : (60 : Int) < (k : Int)
        · have hd2 : decide ((60 : Int) < (k : Int)) = true := decide_eq_true h60
          go_wp2_with fail
          go_quiet (fail)
          go_wp2_with fail
          go_ret
          exact ⟨false, rfl, (fun h => by cases h), q + nq, by simp⟩
        · have hd2 : decide ((60 : Int) < (k : Int)) = false := decide_eq_false h60
          go_wp2_with fail
          go_quiet (fail)
          go_wp2_with fail
          go_roundw
          case rel =>
            refine ⟨k + 1, q + nq, by omega, by omega, by go_num, Lib.hid (fun j y hj hy => ?_), by first | rfl | simp⟩
            by_cases e : j = k
            · subst e
              rw [HX.out] at hy
              cases hy
              exact HS.out
            · exact hok.out j y (by omega) hy
          case measure => simp [intOf]; omega
    · obtain rfl : n = k := by omega
      go_wp2_with fail
      go_ret
      refine ⟨true, rfl, fun _ => ⟨hk61, fun x hx => ?_⟩, _, rfl⟩
      obtain ⟨j, hj⟩ := List.mem_iff_getElem?.1 hx
      exact hok.out j x (by have := (List.getElem?_eq_some_iff.1 hj).1; rw [HN.out] at this; exact this) hj

/-- Are all taken, one by one? -/
def madeFrom : List Ev → List Ev → Bool
  | _, [] => true
  | es, e :: r => takesB es e && madeFrom (es ++ [e]) r
def madeB (l : List Ev) : Bool := madeFrom [] l

set_option maxHeartbeats 2000000 in
set_option maxRecDepth 100000 in
theorem made_any (w : World) (B : Nat) (A : Option Addr) (l : List Ev) (n c : Nat) (hn : l.length = n) (hl : EvsAt w B A l) (hB : B ≤ w.heap.size) (hb : n ≤ 1000) (hsh : ∀ e ∈ l, EvSh e) (hg : GlobAt w) :
    Calls Tryd.prog 11 #[.slice A n c] w fun e w' => ((madeB l = false ∧ e = .returned (.pointer none)) ∨ (madeB l = true ∧ ∃ cb F, e = .returned (.pointer (some ⟨cb, 0, none⟩)) ∧ CatAt w' cb F l ∧ ∀ q, F q → w.heap.size ≤ q)) ∧ Below w.heap.size w w' := by
  have HN := Lib.hid hn
  have HL := Lib.hid hl
  have HS := Lib.hid hsh
  have HG := Lib.hid hg
  have HNW := Lib.hid (new_any w)
  have hgl := hg.1
  have HM : Hid (madeB l = madeFrom (l.take 0) (l.drop 0)) := Lib.hid rfl
  clear hn hl hsh hg
  go_enter Tryd.func11, Tryd.ntmps11
  go_wp2_with fail
  refine HNW.out.mono ?_
  rintro e w1 ⟨cb, F0, rfl, hc1, hf1, hb1⟩
  have HC1 := Lib.hid hc1
  have HF1 := Lib.hid hf1
  have HB1 := Lib.hid hb1
  clear hc1 hf1 hb1 HNW
  go_wp2_with fail
  go_loopw [4] (fun i wr => ∃ k : Nat, k ≤ n ∧ i = .int .i64 k ∧ Hid (madeB l = madeFrom (l.take k) (l.drop k)) ∧ Hid (∃ F, CatAt wr cb F (l.take k) ∧ ∀ q, F q → w.heap.size ≤ q) ∧ Hid (Below w.heap.size w wr)) (fun i _ => n - (intOf i).toNat)
  case atStart => exact ⟨0, Nat.zero_le _, rfl, HM, Lib.hid ⟨F0, HC1.out, HF1.out⟩, HB1⟩
  case round =>
    obtain ⟨k, hk, rfl, hm, hc, hbw⟩ := hrel
    by_cases hlt : k < n
    · obtain ⟨x, hx⟩ : ∃ x, l[k]? = some x := ⟨l[k]'(by rw [HN.out]; exact hlt), List.getElem?_eq_getElem _⟩
      obtain ⟨g, o, rfl, hgB, hcl⟩ := HL.out.at (by rw [HN.out]; omega)
      obtain ⟨e0, e1, e2, e3, e4, e5, e6, e7⟩ : EvAt wr g (o + k * 8) x := (hcl k x hx).keep (fun j => hbw.out.cell (p := ⟨g, j, none⟩) (by show g < w.heap.size; omega))
      obtain ⟨F, hcat, hF⟩ := hc.out
      have hlen : (l.take k).length = k := by rw [List.length_take, HN.out]; omega
      have HA := Lib.hid (apply_any cb F (l.take k) x wr hcat (HS.out x (List.mem_of_getElem? hx)) (HG.out.keep hbw.out (Nat.le_refl _)) (by rw [hlen]; omega) (fun i hi hFi => by have := hF i hFi; omega))
      have hdr : l.drop k = x :: l.drop (k + 1) := by
        obtain ⟨hlt', hx'⟩ := List.getElem?_eq_some_iff.1 hx
        rw [List.drop_eq_getElem_cons hlt', hx']
      have htk : l.take (k + 1) = l.take k ++ [x] := by rw [List.take_add_one, hx]; rfl
      have HM2 : Hid (madeB l = (takesB (l.take k) x && madeFrom (l.take (k + 1)) (l.drop (k + 1)))) := Lib.hid (by rw [hm.out, hdr, htk]; rfl)
      have HTK := Lib.hid htk
      have HF := Lib.hid hF
      have hk8 : (k : Int) < (n : Int) := by omega
      have hk9 : (0 : Int) ≤ (k : Int) := by omega
      unfold evA at HA
      clear hcl hx hdr htk hcat hF hlen
      go_wp2_with fail
      refine HA.out.mono ?_
      rintro e w2 ⟨rfl, F2, hc2, hs2, hf2, hk2⟩
      have HB2 : Hid (Below w.heap.size w w2) := Lib.hid (hbw.out.trans (hk2.toBelow HF.out hbw.out.size))
      have HC2 := Lib.hid hc2
      have HF2 : Hid (∀ q, F2 q → w.heap.size ≤ q) := Lib.hid (fun q hq => (hf2 q hq).elim (HF.out q) (fun h => Nat.le_trans hbw.out.size h))
      clear HA hc2 hf2 hs2 hk2
      cases ht : takesB (l.take k) x
      · have HT := Lib.hid ht
        clear ht
        go_wp2_with fail
        go_ret
        exact ⟨Or.inl ⟨by rw [HM2.out, HT.out]; rfl, rfl⟩, HB2.out⟩
      · have HT := Lib.hid ht
        clear ht
        go_wp2_with fail
        go_roundw
        case rel =>
          refine ⟨k + 1, by omega, by go_num, Lib.hid (by rw [HM2.out, HT.out, Bool.true_and]), Lib.hid ⟨F2, ?_, HF2.out⟩, HB2⟩
          have := HC2.out
          unfold aftP at this
          rw [HT.out, if_pos rfl, ← HTK.out] at this
          exact this
        case measure => simp [intOf]; omega
    · obtain rfl : n = k := by omega
      go_wp2_with fail
      go_ret
      obtain ⟨F, hcat, hF⟩ := hc.out
      refine ⟨Or.inr ⟨?_, cb, F, rfl, ?_, hF⟩, hbw.out⟩
      · rw [hm.out, ← HN.out, List.take_length, List.drop_length]; rfl
      · rw [← HN.out, List.take_length] at hcat; exact hcat

def eX1 : Ev := ⟨⟨#[115]⟩, 1, 5, 11, ⟨#[]⟩, ⟨#[120]⟩, 3, ⟨#[109, 59]⟩⟩
def eX2 : Ev := ⟨⟨#[115]⟩, 2, 6, 12, ⟨#[]⟩, ⟨#[120]⟩, 7, ⟨#[]⟩⟩
theorem aw1 : takesB [] eX1 = true := by kernel_rfl
theorem aw2 : takesB [eX1] eX2 = true := by kernel_rfl
theorem aw3 : atP [eX1, eX2] ⟨#[120]⟩ 5 = some ⟨⟨#[120]⟩, ⟨#[109]⟩, ⟨#[]⟩, 0, 3, 5, true⟩ := by kernel_rfl
theorem aw4 : atP [eX1, eX2] ⟨#[120]⟩ 4 = none := by kernel_rfl

end Go.Proofs.YtpnfnmpohacnoaaDoor
