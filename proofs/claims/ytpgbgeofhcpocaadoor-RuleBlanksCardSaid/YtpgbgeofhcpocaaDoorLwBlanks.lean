/- RuleBlanks: the walk. -/
import Derived.Test.YtpgbgeofhcpocaaDoorLwParses
namespace Go.Proofs.YtpgbgeofhcpocaaDoor
open Go.RowKit Go.Maps Go.Shelf
set_option linter.unusedVariables false

/-- A byte with blanks around, if it ends a word. -/
def wideB (n : Nat) (b : UInt8) : List UInt8 := if isD b = true then List.replicate n 32 ++ ([b] ++ List.replicate n 32) else [b]
def wideL (n : Nat) (l : List UInt8) : List UInt8 := l.flatMap (wideB n)
theorem tk_blanks (n : Nat) (r : List UInt8) : tkA [] (List.replicate n 32 ++ r) = tkA [] r := by
  induction n with
  | zero => rfl
  | succ n ih => rw [List.replicate_succ, List.cons_append, tkA_sg rfl, ih]; rfl
theorem tk_blanks_d {d : UInt8} (hd : isD d = true) (n : Nat) (acc r : List UInt8) : tkA acc (List.replicate n 32 ++ d :: r) = tkA acc (d :: r) := by
  cases n with
  | zero => rfl
  | succ n =>
    have h1 := tkA_app 32 rfl (List.replicate n 32 ++ d :: r) [] acc
    rw [List.nil_append, tk_blanks] at h1
    have h2 := tkA_app d hd r [] acc
    rw [List.nil_append] at h2
    rw [List.replicate_succ, List.cons_append, h1, h2, tkA_sg hd]
    simp [sg]
theorem tk_blanks_end (n : Nat) (acc : List UInt8) : tkA acc (List.replicate n 32) = tkA acc [] := by
  cases n with
  | zero => rfl
  | succ n =>
    have h1 := tkA_app 32 rfl (List.replicate n 32) [] acc
    rw [List.nil_append] at h1
    have h2 := tk_blanks n []
    rw [List.append_nil] at h2
    rw [List.replicate_succ, h1, h2]
    simp [sg, tkA, fl]
theorem tk_wide (n q : Nat) : ∀ (l acc : List UInt8), tkA acc (wideL n l ++ List.replicate q 32) = tkA acc l
  | [], acc => tk_blanks_end q acc
  | b :: l, acc => by
    unfold wideL
    rw [List.flatMap_cons, List.append_assoc]
    by_cases hb : isD b = true
    · have e : wideB n b ++ (l.flatMap (wideB n) ++ List.replicate q 32) = List.replicate n 32 ++ b :: (List.replicate n 32 ++ (wideL n l ++ List.replicate q 32)) := by
        have hw : wideB n b = List.replicate n 32 ++ ([b] ++ List.replicate n 32) := if_pos hb
        unfold wideL
        rw [hw]
        simp
      rw [e, tk_blanks_d hb]
      have h1 := tkA_app b hb (List.replicate n 32 ++ (wideL n l ++ List.replicate q 32)) [] acc
      have h2 := tkA_app b hb l [] acc
      rw [List.nil_append] at h1 h2
      rw [h1, h2, tk_blanks, tk_wide n q l []]
    · have e : wideB n b ++ (l.flatMap (wideB n) ++ List.replicate q 32) = b :: (wideL n l ++ List.replicate q 32) := by
        have hw : wideB n b = [b] := if_neg hb
        unfold wideL
        rw [hw]
        rfl
      rw [e, tkA, if_neg hb, tk_wide n q l (acc ++ [b]), tkA, if_neg hb]
theorem wide_len (n : Nat) : ∀ l : List UInt8, (wideL n l).length ≤ (2 * n + 1) * l.length
  | [] => Nat.zero_le _
  | b :: l => by
    have ih := wide_len n l
    unfold wideL at *
    rw [List.flatMap_cons, List.length_append]
    have h : (wideB n b).length ≤ 2 * n + 1 := by
      unfold wideB
      split <;> simp <;> omega
    rw [List.length_cons, Nat.mul_add]
    omega
theorem wide_snoc (n : Nat) (l : List UInt8) (b : UInt8) : wideL n (l ++ [b]) = wideL n l ++ wideB n b := by
  unfold wideL
  rw [List.flatMap_append, List.flatMap_singleton]
/-- Two texts with the same tokens. -/
theorem Says.alike {s t : ByteArray} {r r' : Option (Option Nd)} {a a' : Nat} (h : Says s r a) (h' : Says t r' a') (hs : s.size ≤ 2000) (ht : t.size ≤ 2000) (he : tkS s = tkS t) : r = r' := by
  have hn : toks s = [] ↔ toks t = [] := by rw [toks_nil, toks_nil, he]
  cases h with
  | long h => omega
  | empty h h0 =>
    cases h' with
    | long h2 => omega
    | empty _ _ => rfl
    | good _ h2 _ => exact absurd (hn.1 h0) h2
    | bad _ h2 _ _ => exact absurd (hn.1 h0) h2
  | @good ns h h0 hp =>
    rw [toks_tk, he] at hp
    cases h' with
    | long h2 => omega
    | empty _ h2 => exact absurd (hn.2 h2) h0
    | good _ _ hp2 => rw [toks_tk] at hp2; obtain ⟨_, _, e⟩ := hp.det hp2; rw [e rfl]
    | @bad ok j ns2 _ _ hp2 hn =>
      rw [toks_tk] at hp2
      obtain ⟨rfl, e, _⟩ := hp.det hp2
      rcases hn with hn | hn
      · cases hn
      · exfalso
        have := congrArg List.length e
        rw [tx_len] at this
        exact hn (List.length_eq_zero_iff.1 this.symm)
  | @bad ok j ns h h0 hp hnn =>
    rw [toks_tk, he] at hp
    cases h' with
    | long h2 => omega
    | empty _ h2 => exact absurd (hn.2 h2) h0
    | @good ns2 _ _ hp2 =>
      rw [toks_tk] at hp2
      obtain ⟨rfl, e, _⟩ := hp.det hp2
      rcases hnn with hn | hn
      · cases hn
      · exfalso
        have := congrArg List.length e
        rw [tx_len] at this
        exact hn (List.length_eq_zero_iff.1 this)
    | bad _ _ _ _ => rfl
theorem rulev_shape {w : World} {B : Nat} {r : Option (Option Nd)} {v : Value} (h : RuleV w B r v) : (r = none ∧ v = .pointer none) ∨ ∃ r' p, r = some r' ∧ v = .pointer (some p) := by
  match r, h with
  | none, h => exact Or.inl ⟨rfl, h⟩
  | some none, ⟨g, e, _⟩ => exact Or.inr ⟨_, _, rfl, e⟩
  | some (some n), ⟨_, g, u, e, _⟩ => exact Or.inr ⟨_, _, rfl, e⟩

set_option maxHeartbeats 8000000 in
set_option maxRecDepth 100000 in
theorem ruleBlanks_walk (s : ByteArray) (a : Int) (w : World) (hs : s.size ≤ 140737488355328) (ha : 0 ≤ a ∧ a ≤ 255) (hL : LibAt w) :
    Calls Tryd.prog 5 #[.string s, .int .u8 a] w fun e w' => e = .returned (.bool true) ∧ Below w.heap.size w w' := by
  have HLB := Lib.hid hL
  obtain ⟨n, rfl⟩ : ∃ n : Nat, a = n := ⟨a.toNat, by omega⟩
  have HAW : Hid (∀ W, Below w.heap.size w W → Calls Tryd.prog 8 #[] W fun e w' => e = .returned (.bool true) ∧ Below W.heap.size W w') := Lib.hid (fun W hW => awake_any W (HLB.out.below hW))
  have HTX : Hid (∀ W r B v, Below w.heap.size w W → RuleV W B (some r) v → (ruleT r).size ≤ 4000 → Calls Tryd.prog 11 #[v] W fun e w' => e = .returned (.string (ruleT r)) ∧ Below W.heap.size W w') := Lib.hid (fun W r B v hW hv hz => Text_any r B v W hv (by omega) (HLB.out.below hW).2)
  clear hL ha
  by_cases hlong : 200 < s.size ∨ 4 < n
  · have HA := Lib.hid (HAW.out w (Below.refl _ _))
    have q : ((200 : Int) < (s.size : Int)) ∨ (¬ ((200 : Int) < (s.size : Int)) ∧ (4 : Int) < (n : Int)) := by omega
    clear hlong
    rcases q with q1 | ⟨q1, q2⟩
    all_goals
      go_enter Tryd.func5, Tryd.ntmps5
      go_wp2_with fail
      refine HA.out.mono ?_
      rintro e w1 ⟨rfl, hb⟩
      go_wp2_with fail
      go_ret
      exact ⟨rfl, hb⟩
  have q1 : ¬ (200 : Int) < (s.size : Int) := by omega
  have q2 : ¬ (4 : Int) < (n : Int) := by omega
  have hs1 : s.size ≤ 200 := by omega
  have hn1 : n ≤ 4 := by omega
  clear hlong
  go_enter Tryd.func5, Tryd.ntmps5
  go_wp2_with fail
  go_loopw [6, 24] (fun v6 v24 wr => ∃ (i : Nat) (x : ByteArray), i ≤ n ∧ v24 = .int .i64 i ∧ v6 = .string x ∧ x.size ≤ i ∧ Hid (x.data.toList = List.replicate i 32) ∧ wr = w) (fun _ v24 _ => n - (intOf v24).toNat)
  case atStart => exact ⟨0, _, Nat.zero_le _, rfl, rfl, Nat.le_refl _, Lib.hid rfl, rfl⟩
  case round =>
    obtain ⟨i, x, hin, rfl, rfl, hxz, hx, rfl⟩ := hrel
    by_cases hlt : i < n
    · have q3 : (i : Int) < (n : Int) := by omega
      have HX : Hid ((x ++ (⟨#[32]⟩ : ByteArray)).data.toList = List.replicate (i + 1) 32) := Lib.hid (by rw [ba_app, hx.out, List.replicate_succ'])
      have HZ2 : Hid ((x ++ (⟨#[32]⟩ : ByteArray)).size ≤ i + 1) := Lib.hid (by
        have h1 : (x ++ (⟨#[32]⟩ : ByteArray)).size = x.size + 1 := by simp [ByteArray.size_append]; rfl
        omega)
      go_wp2_with fail
      go_roundw
      case rel => exact ⟨i + 1, _, by omega, by go_num, rfl, HZ2.out, HX, by first | rfl | trivial⟩
      case measure => simp [intOf]; omega
    obtain rfl : i = n := by omega
    have q3 : ¬ (i : Int) < (i : Int) := by omega
    go_wp2_with fail
    go_loopw [5, 31] (fun v5 v31 wr2 => ∃ (k : Nat) (y : ByteArray), k ≤ s.size ∧ v31 = .int .i64 k ∧ v5 = .string y ∧ y.size ≤ 9 * k ∧ Hid (y.data.toList = wideL i (s.data.toList.take k)) ∧ wr2 = wr) (fun _ v31 _ => s.size - (intOf v31).toNat)
    case atStart => exact ⟨0, _, Nat.zero_le _, rfl, rfl, Nat.le_refl _, Lib.hid rfl, rfl⟩
    case round =>
      obtain ⟨k, y, hk, rfl, rfl, hyz, hy, rfl⟩ := hrel
      by_cases hlt2 : k < s.size
      · have q4 : (k : Int) < (s.size : Int) := by omega
        have hk8 : (0 : Int) ≤ (k : Int) := by omega
        have hk6 : (k : Int) + 1 ≤ (s.size : Int) := by omega
        have hk5 : (k : Int) ≤ (k : Int) + 1 := by omega
        have hkw : IntKind.i64.wrap ((k : Int) + 1) = (k : Int) + 1 := by rw [IntKind.wrap_i64]; omega
        have hkt : ((k : Int) + 1).toNat = k + 1 := by omega
        have hz1 : (s.extract k (k + 1)).size ≤ 1 := by rw [ByteArray.size_extract]; omega
        have HE : Hid ((s.extract k (k + 1)).data.toList = [s[k]'hlt2]) := Lib.hid (by
          rw [ext_list, show k + 1 - k = 1 by omega, List.drop_eq_getElem_cons (by simpa using hlt2)]
          rfl)
        have HTK : Hid (s.data.toList.take (k + 1) = s.data.toList.take k ++ [s[k]'hlt2]) := Lib.hid (by
          rw [List.take_add_one, List.getElem?_eq_getElem (by simpa using hlt2)]
          rfl)
        obtain ⟨c, hc⟩ : ∃ c, s[k]'hlt2 = c := ⟨_, rfl⟩
        rw [hc] at HE HTK
        obtain ⟨ee, hee⟩ : ∃ ee, s.extract k (k + 1) = ee := ⟨_, rfl⟩
        rw [hee] at HE hz1
        have ez1 : (x ++ ee).size = x.size + ee.size := by simp [ByteArray.size_append]
        have ez2 : (x ++ ee ++ x).size = x.size + ee.size + x.size := by simp [ByteArray.size_append]
        have ez3 : (y ++ (x ++ ee ++ x)).size = y.size + (x.size + ee.size + x.size) := by simp [ByteArray.size_append]
        have ez4 : (y ++ ee).size = y.size + ee.size := by simp [ByteArray.size_append]
        by_cases hd : isD c = true
        · have h3 : c = 32 ∨ (c ≠ 32 ∧ c = 40) ∨ (c ≠ 32 ∧ c ≠ 40 ∧ c = 41) := by
            unfold isD at hd
            simp only [Bool.or_eq_true, beq_iff_eq] at hd
            rcases hd with (h | h) | h
            · exact Or.inl h
            · exact Or.inr (Or.inl ⟨by rw [h]; decide, h⟩)
            · exact Or.inr (Or.inr ⟨by rw [h]; decide, by rw [h]; decide, h⟩)
          have HY : Hid ((y ++ (x ++ ee ++ x)).data.toList = wideL i (s.data.toList.take (k + 1))) := Lib.hid (by
            rw [HTK.out, wide_snoc, ba_app, ba_app, ba_app, hy.out, hx.out, HE.out]
            unfold wideB
            rw [if_pos hd]
            simp)
          have HYZ : Hid ((y ++ (x ++ ee ++ x)).size ≤ 9 * (k + 1)) := Lib.hid (by omega)
          clear hd
          rcases h3 with h | ⟨h0, h⟩ | ⟨h0, h1, h⟩
          · have r1 : ((c.toNat : Int) == 32) = true := by rw [h]; rfl
            clear h
            go_wp2_with fail
            go_roundw
            case rel => exact ⟨k + 1, _, by omega, by go_num, rfl, HYZ.out, HY, by first | rfl | trivial⟩
            case measure => simp [intOf]; omega
          · have r1 : ((c.toNat : Int) == 32) = false := by rw [h]; rfl
            have r2 : ((c.toNat : Int) == 40) = true := by rw [h]; rfl
            clear h h0
            go_wp2_with fail
            go_roundw
            case rel => exact ⟨k + 1, _, by omega, by go_num, rfl, HYZ.out, HY, by first | rfl | trivial⟩
            case measure => simp [intOf]; omega
          · have r1 : ((c.toNat : Int) == 32) = false := by rw [h]; rfl
            have r2 : ((c.toNat : Int) == 40) = false := by rw [h]; rfl
            have r3 : ((c.toNat : Int) == 41) = true := by rw [h]; rfl
            clear h h0 h1
            go_wp2_with fail
            go_roundw
            case rel => exact ⟨k + 1, _, by omega, by go_num, rfl, HYZ.out, HY, by first | rfl | trivial⟩
            case measure => simp [intOf]; omega
        · have h3 : c ≠ 32 ∧ c ≠ 40 ∧ c ≠ 41 := by
            unfold isD at hd
            simp only [Bool.or_eq_true, beq_iff_eq, not_or] at hd
            exact ⟨hd.1.1, hd.1.2, hd.2⟩
          have HY : Hid ((y ++ ee).data.toList = wideL i (s.data.toList.take (k + 1))) := Lib.hid (by
            rw [HTK.out, wide_snoc, ba_app, hy.out, HE.out]
            unfold wideB
            rw [if_neg hd])
          have HYZ : Hid ((y ++ ee).size ≤ 9 * (k + 1)) := Lib.hid (by omega)
          have nb : ∀ q : UInt8, c ≠ q → ((c.toNat : Int) == (q.toNat : Int)) = false := fun q hq => by
            rw [beq_eq_false_iff_ne]
            intro e
            exact hq (UInt8.toNat_inj.1 (by omega))
          have r1 : ((c.toNat : Int) == 32) = false := nb 32 h3.1
          have r2 : ((c.toNat : Int) == 40) = false := nb 40 h3.2.1
          have r3 : ((c.toNat : Int) == 41) = false := nb 41 h3.2.2
          clear hd h3 nb
          go_wp2_with fail
          go_roundw
          case rel => exact ⟨k + 1, _, by omega, by go_num, rfl, HYZ.out, HY, by first | rfl | trivial⟩
          case measure => simp [intOf]; omega
      obtain rfl : k = s.size := by omega
      have q4 : ¬ (s.size : Int) < (s.size : Int) := by omega
      have ez1 : (x ++ y).size = x.size + y.size := by simp [ByteArray.size_append]
      have ez2 : (x ++ y ++ x).size = x.size + y.size + x.size := by simp [ByteArray.size_append]
      have HTE : Hid (tkS (x ++ y ++ x) = tkS s ∧ (x ++ y ++ x).size ≤ 2000) := Lib.hid ⟨by
        unfold tkS
        rw [ba_app, ba_app, hx.out, hy.out, List.take_of_length_le (by simp), List.append_assoc, tk_blanks, tk_wide], by omega⟩
      have HP1 := Lib.hid (parse_any s wr (by omega) HLB.out.all)
      go_wp2_with fail
      refine HP1.out.mono ?_
      rintro e w1 ⟨r1, a1, v1, hy1, rfl, hv1, hb1⟩
      have HB1 := Lib.hid hb1
      have HP2 := Lib.hid (parse_any (x ++ y ++ x) w1 (by omega) (HLB.out.below hb1).all)
      have HY1 := Lib.hid hy1
      have HV1 := Lib.hid hv1
      clear hy1 hv1 hb1 HP1
      go_wp2_with fail
      refine HP2.out.mono ?_
      rintro e w2 ⟨r2, a2, v2, hy2, rfl, hv2, hb2⟩
      obtain rfl := HY1.out.alike hy2 (by omega) HTE.out.2 HTE.out.1.symm
      have HB2 := Lib.hid (HB1.out.trans (hb2.mono HB1.out.size))
      have HV2 := Lib.hid hv2
      have HV1' := Lib.hid (HV1.out.below hb2)
      have HAW2 := Lib.hid (HAW.out w2 HB2.out)
      clear hy2 hv2 hb2 HP2 HV1
      rcases rulev_shape HV2.out with ⟨rfl, rfl⟩ | ⟨r, p2, rfl, rfl⟩
      · obtain rfl : v1 = .pointer none := HV1'.out
        simp only [errOf, Option.isNone_none]
        go_wp2_with fail
        refine HAW2.out.mono ?_
        rintro e w3 ⟨rfl, hb⟩
        have HB3 := Lib.hid (HB2.out.trans (hb.mono HB2.out.size))
        clear hb
        go_wp2_with fail
        go_ret
        exact ⟨rfl, HB3.out⟩
      · obtain ⟨p1, rfl⟩ : ∃ p1, v1 = .pointer (some p1) := by
          rcases rulev_shape HV1'.out with ⟨h, _⟩ | ⟨_, p, _, h⟩
          · cases h
          · exact ⟨p, h⟩
        have HSZ := Lib.hid HY1.out.sz
        have HT1 := Lib.hid (HTX.out w2 r _ _ HB2.out HV1'.out HSZ.out)
        obtain ⟨txt, htxt⟩ : ∃ txt, ruleT r = txt := ⟨_, rfl⟩
        have HTXT := Lib.hid htxt
        rw [htxt] at HT1
        have hbeq : (txt.toList == txt.toList) = true := by simp
        clear htxt
        simp only [errOf, Option.isNone_some]
        go_wp2_with fail
        refine HT1.out.mono ?_
        rintro e w3 ⟨rfl, hb⟩
        have HB3 := Lib.hid (HB2.out.trans (hb.mono HB2.out.size))
        have HT2 := Lib.hid (HTX.out w3 r _ _ HB3.out (HV2.out.below hb) HSZ.out)
        rw [HTXT.out] at HT2
        clear hb
        go_wp2_with fail
        refine HT2.out.mono ?_
        rintro e w4 ⟨rfl, hb⟩
        have HB4 := Lib.hid (HB3.out.trans (hb.mono HB3.out.size))
        have HA4 := Lib.hid (HAW.out w4 HB4.out)
        clear hb
        go_wp2_with fail
        refine HA4.out.mono ?_
        rintro e w5 ⟨rfl, hb⟩
        have HB5 := Lib.hid (HB4.out.trans (hb.mono HB4.out.size))
        clear hb
        go_wp2_with fail
        go_ret
        exact ⟨rfl, HB5.out⟩
end Go.Proofs.YtpgbgeofhcpocaaDoor
