/- RuleDeep: the walk. -/
import Derived.Test.YtpgbgeofhcpocaaDoorLwParses
namespace Go.Proofs.YtpgbgeofhcpocaaDoor
open Go.RowKit Go.Maps Go.Shelf
set_option linter.unusedVariables false

theorem again_deep {a : Leaf} (ha : LeafOk a) : ∀ (n d : Nat) (rest : List ByteArray), d + n ≤ 40 → Stop 0 rest → Again (.atom a) 0 d (List.replicate n openW ++ (leafT a :: List.replicate n closeW)) rest
  | 0, d, rest, h, hs => by
    have h2 : Again (.atom a) 2 d [leafT a] rest := ⟨[.atom a], P.leaf (d := d) (L := [leafT a] ++ rest) (a := a) ⟨ha, rfl⟩, rfl⟩
    exact (h2.lift (k := 1) (by omega) (fun j h1 h2 => hs j (by omega) h2) (fun l e => by cases e)).lift (k := 0) (by omega) hs (fun l e => by cases e)
  | n + 1, d, rest, h, hs => by
    have h0 := (again_deep ha n (d + 1) (closeW :: rest) (by omega) (stop_close rest 0)).brackets (by omega)
    have e : openW :: (List.replicate n openW ++ (leafT a :: List.replicate n closeW) ++ [closeW]) = List.replicate (n + 1) openW ++ (leafT a :: List.replicate (n + 1) closeW) := by
      rw [List.replicate_succ, List.replicate_succ' (a := closeW)]
      simp
    rw [e] at h0
    exact (h0.lift (k := 1) (by omega) (fun j h1 h2 => hs j (by omega) h2) (fun l e => by cases e)).lift (k := 0) (by omega) hs (fun l e => by cases e)
theorem too_deep (T : List ByteArray) : ∀ (q d : Nat), d + q = 40 → ∃ ns, P 2 d (List.replicate q openW ++ openW :: T) false (openW :: T) ns
  | 0, d, h => ⟨[], .bad (by show openW ≠ notW; decide) (fun h2 => by omega) (fun a ha => leaf_no (w := openW) (Or.inr (Or.inl rfl)) a ha)⟩
  | q + 1, d, h => by
    obtain ⟨ns, hp⟩ := too_deep T q (d + 1) (by omega)
    have h1 := P.rlast (k := 1) (by omega) hp (Or.inl rfl)
    have h0 := P.rlast (k := 0) (by omega) h1 (Or.inl rfl)
    rw [List.replicate_succ]
    exact ⟨[], .openBad (L := openW :: (List.replicate q openW ++ openW :: T)) rfl (by omega) h0 (Or.inl rfl)⟩
theorem tk_open (n : Nat) (l : List UInt8) : tkA [] (List.replicate n 40 ++ l) = List.replicate n openW ++ tkA [] l := by
  induction n with
  | zero => rfl
  | succ n ih => rw [List.replicate_succ, List.cons_append, tkA_sg rfl, ih, List.replicate_succ]; rfl
theorem tk_close (n : Nat) : tkA [] (List.replicate n 41) = List.replicate n closeW := by
  induction n with
  | zero => rfl
  | succ n ih => rw [List.replicate_succ, tkA_sg rfl, ih, List.replicate_succ]; rfl
theorem tk_deep {a : Leaf} (ha : LeafOk a) (n : Nat) {s : ByteArray} (h : s.data.toList = List.replicate n 40 ++ ((leafT a).data.toList ++ List.replicate n 41)) : tkS s = List.replicate n openW ++ (leafT a :: List.replicate n closeW) := by
  unfold tkS
  rw [h, tk_open]
  have he : Ends (List.replicate n (41 : UInt8)) := by
    cases n with
    | zero => exact Or.inl rfl
    | succ n => exact Or.inr ⟨41, List.replicate n 41, by rw [List.replicate_succ], rfl⟩
  rw [tkA_ends (tkA_word (leaf_free ha) (leaf_ne ha)) he, tk_close]
  rfl
theorem toks_open {s : ByteArray} {n : Nat} (h : ∀ i, i < n → byteAt s i = 40) (hn : n ≤ s.size) : ∀ k, k ≤ n → ∃ ts : List Tk, toks s = ts ++ tokR s k k ∧ ts.length = k
  | 0, _ => ⟨[], rfl, rfl⟩
  | k + 1, hk => by
    obtain ⟨ts, e, hl⟩ := toks_open h hn k (by omega)
    have hb := h k (by omega)
    refine ⟨ts ++ [(s.extract k (k + 1), k)], ?_, by simp [hl]⟩
    rw [e, tokR_d (by omega) (by rw [hb]; rfl), wordT_none]
    unfold signT
    rw [if_neg (by rw [hb]; decide)]
    simp
theorem says_deep {a : Leaf} (ha : LeafOk a) {n : Nat} {s : ByteArray} (hn : n ≤ 255) (hl : (leafT a).size ≤ 100) (h : s.data.toList = List.replicate n 40 ++ ((leafT a).data.toList ++ List.replicate n 41)) : (n ≤ 40 → Says s (some (some (.atom a))) 0) ∧ (40 < n → Says s none 40) := by
  have hz : s.size = n + ((leafT a).size + n) := by
    have := congrArg List.length h
    simpa using this
  have htk := tk_deep ha n h
  have hne : toks s ≠ [] := by
    rw [Ne, toks_nil, htk]
    intro e
    have := (List.append_eq_nil_iff.1 e).2
    cases this
  refine ⟨fun h40 => ?_, fun h40 => ?_⟩
  · obtain ⟨ns, hp, e⟩ := again_deep ha n 0 [] (by omega) stop_nil
    rw [List.append_nil, ← htk, ← toks_tk] at hp
    have := Says.good (s := s) (by omega) hne hp
    rwa [e] at this
  · have hb : ∀ i, i < n → byteAt s i = 40 := fun i hi => by
      unfold byteAt
      rw [h, List.getD_eq_getElem?_getD, List.getElem?_append_left (by rw [List.length_replicate]; exact hi), List.getElem?_replicate, if_pos hi]
      rfl
    obtain ⟨ts, e, hlen⟩ := toks_open hb (by omega) 40 (by omega)
    have e2 : (toks s).drop 40 = tokR s 40 40 := by rw [e, ← hlen, List.drop_left]
    have e3 : tokR s 40 40 = (s.extract 40 41, 40) :: tokR s 41 41 := by
      rw [tokR_d (by omega) (by rw [hb 40 h40]; rfl), wordT_none]
      unfold signT
      rw [if_neg (by rw [hb 40 h40]; decide)]
      rfl
    obtain ⟨ns, hp⟩ := too_deep (List.replicate (n - 41) openW ++ (leafT a :: List.replicate n closeW)) 40 0 rfl
    have e4 : List.replicate 40 openW ++ openW :: (List.replicate (n - 41) openW ++ (leafT a :: List.replicate n closeW)) = tx (toks s) := by
      rw [toks_tk, htk]
      have : List.replicate n openW = List.replicate 40 openW ++ (openW :: List.replicate (n - 41) openW) := by
        rw [← List.replicate_succ, List.replicate_append_replicate]
        congr 1
        omega
      rw [this]
      simp
    have e5 : openW :: (List.replicate (n - 41) openW ++ (leafT a :: List.replicate n closeW)) = tx ((toks s).drop 40) := by
      have h5 : tx ((toks s).drop 40) = (tx (toks s)).drop 40 := by unfold tx; rw [List.map_drop]
      rw [h5, ← e4, List.drop_left' (by simp)]
    rw [e4, e5] at hp
    have h1 := P.rlast (k := 1) (by omega) hp (Or.inl rfl)
    have h0 := P.rlast (k := 0) (by omega) h1 (Or.inl rfl)
    have := Says.bad (s := s) (by omega) hne h0 (Or.inl rfl)
    rwa [show place ((toks s).drop 40) s.size = 40 by rw [e2, e3]; rfl] at this
theorem ba_eq {x : ByteArray} {L : List UInt8} (h : x.data.toList = L) : x = ⟨L.toArray⟩ := ba_ext (by simp [h])

set_option maxHeartbeats 8000000 in
set_option maxRecDepth 100000 in
theorem ruleDeep_walk (a : Int) (s : ByteArray) (w : World) (ha : 0 ≤ a ∧ a ≤ 255) (hs : s.size ≤ 140737488355328) (hL : LibAt w) :
    Calls Tryd.prog 4 #[.int .u8 a, .string s] w fun e w' => e = .returned (.bool true) ∧ Below w.heap.size w w' := by
  have HLB := Lib.hid hL
  obtain ⟨n, rfl⟩ : ∃ n : Nat, a = n := ⟨a.toNat, by omega⟩
  have hn : n ≤ 255 := by omega
  have HAW : Hid (∀ W, Below w.heap.size w W → Calls Tryd.prog 8 #[] W fun e w' => e = .returned (.bool true) ∧ Below W.heap.size W w') := Lib.hid (fun W hW => awake_any W (HLB.out.below hW))
  clear hL ha
  by_cases hlong : 100 < s.size
  · have q1 : (100 : Int) < (s.size : Int) := by omega
    have HA := Lib.hid (HAW.out w (Below.refl _ _))
    clear hlong
    go_enter Tryd.func4, Tryd.ntmps4
    go_wp2_with fail
    refine HA.out.mono ?_
    rintro e w1 ⟨rfl, hb⟩
    go_wp2_with fail
    go_ret
    exact ⟨rfl, hb⟩
  have q1 : ¬ (100 : Int) < (s.size : Int) := by omega
  have HAT := Lib.hid (atom_any s w (by omega))
  have hs1 : s.size ≤ 100 := by omega
  clear hlong
  go_enter Tryd.func4, Tryd.ntmps4
  go_wp2_with fail
  refine HAT.out.mono ?_
  rintro e w1 ⟨b, rfl, hat, hb1⟩
  have HB1 := Lib.hid hb1
  have HA1 := Lib.hid (HAW.out w1 hb1)
  have HIS := Lib.hid hat
  clear hat hb1 HAT
  cases b
  · go_wp2_with fail
    refine HA1.out.mono ?_
    rintro e w2 ⟨rfl, hb⟩
    have HB := Lib.hid hb
    clear hb
    go_wp2_with fail
    go_ret
    exact ⟨rfl, HB1.out.trans (HB.out.mono HB1.out.size)⟩
  obtain ⟨lf, hlf⟩ := HIS.out.1 rfl
  have HLF := Lib.hid hlf
  clear hlf
  go_wp2_with fail
  go_loopw [5, 20] (fun v5 v20 wr => ∃ (i : Nat) (x : ByteArray), i ≤ n ∧ v20 = .int .i64 i ∧ v5 = .string x ∧ x.size ≤ i ∧ Hid (x.data.toList = List.replicate i 40) ∧ wr = w1) (fun _ v20 _ => n - (intOf v20).toNat)
  case atStart => exact ⟨0, _, Nat.zero_le _, rfl, rfl, Nat.le_refl _, Lib.hid rfl, rfl⟩
  case round =>
    obtain ⟨i, x, hin, rfl, rfl, hxz, hx, rfl⟩ := hrel
    by_cases hlt : i < n
    · have q2 : (i : Int) < (n : Int) := by omega
      have hz : (x ++ (⟨#[40]⟩ : ByteArray)).size = x.size + 1 := by simp [ByteArray.size_append]; rfl
      have HX : Hid ((x ++ (⟨#[40]⟩ : ByteArray)).data.toList = List.replicate (i + 1) 40) := Lib.hid (by rw [ba_app, hx.out, List.replicate_succ'])
      have hz2 : (x ++ (⟨#[40]⟩ : ByteArray)).size ≤ i + 1 := by omega
      have HZ2 := Lib.hid hz2
      clear hz hz2
      go_wp2_with fail
      go_roundw
      case rel => exact ⟨i + 1, _, by omega, by go_num, rfl, HZ2.out, HX, by first | rfl | trivial⟩
      case measure => simp [intOf]; omega
    obtain rfl : i = n := by omega
    have q2 : ¬ (i : Int) < (i : Int) := by omega
    have hz : (x ++ s).size ≤ 400 := by simp [ByteArray.size_append]; omega
    have HX : Hid ((x ++ s).data.toList = List.replicate i 40 ++ s.data.toList) := Lib.hid (by rw [ba_app, hx.out])
    go_wp2_with fail
    go_loopw [5, 30] (fun v5 v20 wr2 => ∃ (j : Nat) (y : ByteArray), j ≤ i ∧ v20 = .int .i64 j ∧ v5 = .string y ∧ y.size ≤ 400 + j ∧ Hid (y.data.toList = List.replicate i 40 ++ (s.data.toList ++ List.replicate j 41)) ∧ wr2 = wr) (fun _ v20 _ => i - (intOf v20).toNat)
    case atStart => exact ⟨0, _, Nat.zero_le _, rfl, rfl, by omega, Lib.hid (by rw [HX.out]; simp), rfl⟩
    case round =>
      obtain ⟨j, y, hjn, rfl, rfl, hyz, hy, rfl⟩ := hrel
      by_cases hlt2 : j < i
      · have q3 : (j : Int) < (i : Int) := by omega
        have HY : Hid ((y ++ (⟨#[41]⟩ : ByteArray)).data.toList = List.replicate i 40 ++ (s.data.toList ++ List.replicate (j + 1) 41)) := Lib.hid (by rw [ba_app, hy.out, List.replicate_succ']; simp)
        have HZ2 : Hid ((y ++ (⟨#[41]⟩ : ByteArray)).size ≤ 400 + (j + 1)) := Lib.hid (by
          have h1 : (y ++ (⟨#[41]⟩ : ByteArray)).size = y.size + 1 := by simp [ByteArray.size_append]; rfl
          omega)
        go_wp2_with fail
        go_roundw
        case rel => exact ⟨j + 1, _, by omega, by go_num, rfl, HZ2.out, HY, by first | rfl | trivial⟩
        case measure => simp [intOf]; omega
      obtain rfl : j = i := by omega
      have q3 : ¬ (j : Int) < (j : Int) := by omega
      have HSD := Lib.hid (says_deep HLF.out.1 (n := j) (s := y) hn (by rw [← HLF.out.2]; exact hs1) (by rw [hy.out, HLF.out.2]))
      have HPA := Lib.hid (parse_any y wr (by omega) (HLB.out.below HB1.out).all)
      go_wp2_with fail
      refine HPA.out.mono ?_
      rintro e w3 ⟨r, at_, v3, hsy, rfl, hv3, hb3⟩
      have HB3 := Lib.hid (HB1.out.trans (hb3.mono HB1.out.size))
      by_cases h40 : 40 < j
      · have q4 : (40 : Int) < (j : Int) := by omega
        obtain ⟨rfl, rfl⟩ := hsy.det (HSD.out.2 h40)
        obtain rfl : v3 = .pointer none := hv3
        have HA3 := Lib.hid (HAW.out w3 HB3.out)
        clear hsy hb3 h40 HPA HSD
        simp only [errOf, Option.isNone_none]
        go_wp2_with fail
        refine HA3.out.mono ?_
        rintro e w4 ⟨rfl, hb⟩
        have HB := Lib.hid hb
        clear hb
        go_wp2_with fail
        go_ret
        exact ⟨rfl, HB3.out.trans (HB.out.mono HB3.out.size)⟩
      · have q4 : ¬ (40 : Int) < (j : Int) := by omega
        obtain ⟨rfl, rfl⟩ := hsy.det (HSD.out.1 (by omega))
        have HTX : Hid (Calls Tryd.prog 11 #[v3] w3 fun e w' => e = .returned (.string s) ∧ Below w3.heap.size w3 w') := Lib.hid (by
          have e : ruleT (some (.atom lf)) = s := by
            show ownB (.atom lf) 0 = s
            unfold ownB
            rw [ownN, HLF.out.2]
          have := Text_any (some (.atom lf)) _ v3 w3 hv3 (by rw [e]; omega) (HLB.out.below HB3.out).2
          rwa [e] at this)
        obtain ⟨p, rfl⟩ : ∃ p, v3 = .pointer (some p) := by obtain ⟨_, g, u, rfl, _⟩ := hv3; exact ⟨_, rfl⟩
        have hbeq : (s.toList == s.toList) = true := by simp
        clear hsy hb3 h40 HPA HSD hv3
        simp only [errOf, Option.isNone_some]
        go_wp2_with fail
        refine HTX.out.mono ?_
        rintro e w4 ⟨rfl, hb⟩
        have HB4 := Lib.hid (HB3.out.trans (hb.mono HB3.out.size))
        have HA4 := Lib.hid (HAW.out w4 HB4.out)
        clear hb
        go_wp2_with fail
        refine HA4.out.mono ?_
        rintro e w5 ⟨rfl, hb⟩
        have HB5 := Lib.hid (HB4.out.trans (hb.mono HB4.out.size))
        clear hb
        go_wp2_with fail
        go_ret
        exact ⟨rfl, HB5.out⟩
end Go.Proofs.YtpgbgeofhcpocaaDoor
