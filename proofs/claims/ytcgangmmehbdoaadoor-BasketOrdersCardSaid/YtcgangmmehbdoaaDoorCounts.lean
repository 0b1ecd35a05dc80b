/- BasketCounts: the walk. -/
import Derived.Test.YtcgangmmehbdoaaDoorBkL
import Derived.Test.YtcgangmmehbdoaaDoorRBsk
namespace Go.Proofs.YtcgangmmehbdoaaDoor
open Go.Shelf Go.RowKit Go.Maps
set_option linter.unusedVariables false

def sinI (hs : List (ByteArray × Int)) (x : ByteArray) : Int := (sinP hs x).getD (-1)
theorem sin_hit {hs : List (ByteArray × Int)} {k : Nat} {h : ByteArray × Int} (hk : hs[k]? = some h) (hno : ∀ j h', j < k → hs[j]? = some h' → h'.1 ≠ h.1) : sinP hs h.1 = some h.2 := by
  unfold sinP
  have : hs.find? (fun h' => decide (h'.1 = h.1)) = some h := by
    obtain ⟨hl, rfl⟩ := List.getElem?_eq_some_iff.1 hk
    rw [List.find?_eq_some_iff_getElem]
    refine ⟨by simp, k, hl, rfl, fun j hj => ?_⟩
    simpa using hno j _ hj (List.getElem?_eq_getElem (by omega))
  rw [this]
  rfl
theorem sin_miss {hs : List (ByteArray × Int)} {x : ByteArray} (hno : ∀ h ∈ hs, h.1 ≠ x) : sinP hs x = none := by
  unfold sinP
  rw [List.find?_eq_none.2 (fun h hh => by simpa using hno h hh)]
  rfl
set_option maxHeartbeats 1000000 in
set_option maxRecDepth 100000 in
theorem rsince_any (w : World) (B : Nat) (A : Option Addr) (hs : List (ByteArray × Int)) (n c : Nat) (s : ByteArray) (hn : hs.length = n) (hl : RowIn w B 2 A n (hs.flatMap hasC)) (hb : n ≤ 1000000) :
    Calls Tryd.prog 45 #[.slice A n c, .string s] w fun e w' => e = .returned (.int .i64 (sinI hs s)) ∧ w = w' := by
  have HN := Lib.hid hn
  have HL := Lib.hid hl
  clear hn hl
  go_enter Tryd.func45, Tryd.ntmps45
  go_wp2_with fail
  go_loopw [5] (fun i wr => ∃ k : Nat, k ≤ n ∧ i = .int .i64 k ∧ Hid (∀ j h, j < k → hs[j]? = some h → h.1 ≠ s) ∧ wr = w) (fun i _ => n - (intOf i).toNat)
  case atStart => exact ⟨0, Nat.zero_le _, rfl, Lib.hid (fun j t hj => by omega), rfl⟩
  case round =>
    obtain ⟨k, hk, rfl, hok, rfl⟩ := hrel
    by_cases hlt : k < n
    · obtain ⟨h, hh⟩ : ∃ h, hs[k]? = some h := ⟨hs[k]'(by rw [HN.out]; exact hlt), List.getElem?_eq_getElem _⟩
      obtain ⟨g, o, rfl, _, hc⟩ := HL.out.at (by omega)
      have e0 : wr.cell? ⟨g, o + k * 2, none⟩ = some (.string h.1) := hc (k * 2) _ (by have := flat_get hasC 2 hasC_len _ k 0 h hh (by omega); simpa [hasC] using this)
      have e1 : wr.cell? ⟨g, o + k * 2 + 1, none⟩ = some (.int .i64 h.2) := by
        rw [Nat.add_assoc]
        exact hc (k * 2 + 1) _ (by have := flat_get hasC 2 hasC_len _ k 1 h hh (by omega); simpa [hasC] using this)
      have HTK := Lib.hid hh
      have hk8 : (k : Int) < (n : Int) := by omega
      have hk9 : (0 : Int) ≤ (k : Int) := by omega
      clear hh hc
      by_cases he : h.1 = s
      · have q1 : (h.1.toList == s.toList) = true := (beq_list _ s).2 he
        have HSI : Hid (sinI hs s = h.2) := Lib.hid (by
          unfold sinI
          rw [← he, sin_hit HTK.out (fun j h' hj hh' => by rw [he]; exact hok.out j h' hj hh')]
          rfl)
        clear he
        go_wp2_with fail
        go_ret
        exact ⟨ret_int HSI.out.symm, rfl⟩
      · have HE := Lib.hid he
        have q1 : (h.1.toList == s.toList) = false := Bool.eq_false_iff.2 (fun e => he ((beq_list _ s).1 e))
        clear he
        go_wp2_with fail
        go_roundw
        case rel =>
          refine ⟨k + 1, by omega, by go_num, Lib.hid (fun j u hj hu => ?_), by trivial⟩
          by_cases e : j = k
          · subst e; rw [HTK.out] at hu; cases hu; exact HE.out
          · exact hok.out j u (by omega) hu
        case measure => simp [intOf]; omega
    · have HF : Hid (sinI hs s = -1) := Lib.hid (by
        unfold sinI
        rw [sin_miss (fun h hh => by
          obtain ⟨j, hj⟩ := List.mem_iff_getElem?.1 hh
          have := (List.getElem?_eq_some_iff.1 hj).1
          rw [HN.out] at this
          exact hok.out j h (by omega) hj)]
        rfl)
      go_wp2_with fail
      go_ret
      exact ⟨ret_int HF.out.symm, rfl⟩

theorem HssIn.at {w : World} {base : Nat} {A : Option Addr} {n c : Nat} {L : List (List (ByteArray × Int))} (h : HssIn w base (.slice A n c) L) (hn : L.length = n) {k : Nat} {hs : List (ByteArray × Int)} (hk : L[k]? = some hs) :
    ∃ (g : Nat) (A' : Option Addr) (c' : Nat), A = some ⟨g, 0, none⟩ ∧ w.cell? ⟨g, k, none⟩ = some (.slice A' hs.length c') ∧ w.ownsRow base 71 2 (.slice A' hs.length c') hs.length (hs.flatMap hasC) := by
  obtain ⟨vs, h1, h2⟩ := h
  obtain ⟨A', c', h3, h4⟩ := h2 k hs hk
  have hlt := (List.getElem?_eq_some_iff.1 hk).1
  rw [hn] at h1 hlt
  obtain ⟨g, cap, hv, _⟩ := h1.form (by omega)
  injection hv with hA _ hc
  subst hA
  exact ⟨g, A', c', rfl, by rw [h1.cellAt k (by omega)]; exact h3, h4⟩
def LenB (L : List (List (ByteArray × Int))) : Prop := ∀ hs ∈ L, hs.length ≤ 1000000
def rS (L : List (List (ByteArray × Int))) (x : ByteArray) : Nat := L.countP fun hs => decide (0 ≤ sinI hs x)
def rC (L : List (List (ByteArray × Int))) (x y : ByteArray) : Nat := L.countP fun hs => decide (0 ≤ sinI hs x ∧ sinI hs x < sinI hs y)
theorem rS_snoc (L : List (List (ByteArray × Int))) (hs : List (ByteArray × Int)) (x : ByteArray) : rS (L ++ [hs]) x = rS L x + one (decide (0 ≤ sinI hs x)) := by
  unfold rS; rw [List.countP_append]; simp [List.countP_cons, one]
theorem rC_snoc (L : List (List (ByteArray × Int))) (hs : List (ByteArray × Int)) (x y : ByteArray) : rC (L ++ [hs]) x y = rC L x y + one (decide (0 ≤ sinI hs x ∧ sinI hs x < sinI hs y)) := by
  unfold rC; rw [List.countP_append]; simp only [List.countP_cons, one, List.countP_nil, Nat.zero_add]
theorem rS_le (L : List (List (ByteArray × Int))) (x : ByteArray) : rS L x ≤ L.length := List.countP_le_length
theorem rC_le (L : List (List (ByteArray × Int))) (x y : ByteArray) : rC L x y ≤ L.length := List.countP_le_length

set_option maxHeartbeats 1000000 in
set_option maxRecDepth 100000 in
theorem rsingle_any (w : World) (base : Nat) (A : Option Addr) (L : List (List (ByteArray × Int))) (n c : Nat) (s : ByteArray) (hn : L.length = n) (hl : HssIn w base (.slice A n c) L) (hb : n ≤ 1000000) (hlb : LenB L) :
    Calls Tryd.prog 25 #[.slice A n c, .string s] w fun e w' => e = .returned (.int .i64 (rS L s)) ∧ w = w' := by
  have HN := Lib.hid hn
  have HL := Lib.hid hl
  have HLB := Lib.hid hlb
  clear hn hl hlb
  go_enter Tryd.func25, Tryd.ntmps25
  go_wp2_with fail
  go_loopw [5, 6] (fun v i wr => ∃ k z : Nat, k ≤ n ∧ z ≤ k ∧ i = .int .i64 k ∧ v = .int .i64 z ∧ Hid (z = rS (L.take k) s) ∧ wr = w) (fun _ i _ => n - (intOf i).toNat)
  case atStart => exact ⟨0, 0, Nat.zero_le _, Nat.le_refl _, rfl, rfl, Lib.hid rfl, rfl⟩
  case round =>
    obtain ⟨k, z, hk, hz, rfl, rfl, hok, rfl⟩ := hrel
    by_cases hlt : k < n
    · obtain ⟨hs, hh⟩ : ∃ h, L[k]? = some h := ⟨L[k]'(by rw [HN.out]; exact hlt), List.getElem?_eq_getElem _⟩
      obtain ⟨g, A', c', rfl, e0, hrow⟩ := HL.out.at HN.out hh
      have HSN := Lib.hid (rsince_any wr wr.heap.size A' hs hs.length c' s rfl (RowIn.of_own hrow) (HLB.out hs (List.mem_of_getElem? hh)))
      have HSC : Hid (rS (L.take (k + 1)) s = z + one (decide (0 ≤ sinI hs s))) := Lib.hid (by rw [take_snoc hh, rS_snoc, hok.out])
      have hk8 : (k : Int) < (n : Int) := by omega
      have hk9 : (0 : Int) ≤ (k : Int) := by omega
      clear hh hrow
      go_wp2_with fail
      refine HSN.out.mono ?_
      rintro e w2 ⟨rfl, rfl⟩
      clear HSN
      generalize sinI hs s = y at *
      by_cases hy : 0 ≤ y
      · have HE : Hid (rS (L.take (k + 1)) s = z + 1) := Lib.hid (by rw [HSC.out, decide_eq_true hy]; rfl)
        go_wp2_with fail
        go_roundw
        case rel => exact ⟨k + 1, z + 1, by omega, by omega, by go_num, by go_num, Lib.hid HE.out.symm, by trivial⟩
        case measure => simp [intOf]; omega
      · have HE : Hid (rS (L.take (k + 1)) s = z) := Lib.hid (by rw [HSC.out, decide_eq_false hy]; rfl)
        have dy : decide (0 ≤ y) = false := decide_eq_false hy
        go_wp2_with fail
        go_roundw
        case rel => exact ⟨k + 1, z, by omega, by omega, by go_num, rfl, Lib.hid HE.out.symm, by trivial⟩
        case measure => simp [intOf]; omega
    · obtain rfl : n = k := by omega
      have HE : Hid (z = rS L s) := Lib.hid (by rw [hok.out, ← HN.out, List.take_length])
      go_wp2_with fail
      go_ret
      exact ⟨ret_int (by rw [HE.out]), rfl⟩

set_option maxHeartbeats 1000000 in
set_option maxRecDepth 100000 in
theorem rcount_any (w : World) (base : Nat) (A : Option Addr) (L : List (List (ByteArray × Int))) (n c : Nat) (s t : ByteArray) (hn : L.length = n) (hl : HssIn w base (.slice A n c) L) (hb : n ≤ 1000000) (hlb : LenB L) :
    Calls Tryd.prog 26 #[.slice A n c, .string s, .string t] w fun e w' => e = .returned (.int .i64 (rC L s t)) ∧ Below w.heap.size w w' := by
  have HN := Lib.hid hn
  have HL := Lib.hid hl
  have HLB := Lib.hid hlb
  clear hn hl hlb
  go_enter Tryd.func26, Tryd.ntmps26
  go_wp2_with fail
  go_loopw [7, 8] (fun v i wr => ∃ k z : Nat, k ≤ n ∧ z ≤ k ∧ i = .int .i64 k ∧ v = .int .i64 z ∧ Hid (z = rC (L.take k) s t) ∧ Hid (HssIn wr base (.slice A n c) L) ∧ Hid (Below w.heap.size w wr)) (fun _ i _ => n - (intOf i).toNat)
  case atStart => exact ⟨0, 0, Nat.zero_le _, Nat.le_refl _, rfl, rfl, Lib.hid rfl, HL, Lib.hid (Below.refl _ _)⟩
  case round =>
    clear HL
    obtain ⟨k, z, hk, hz, rfl, rfl, hok, HL, hbw⟩ := hrel
    by_cases hlt : k < n
    · obtain ⟨hs, hh⟩ : ∃ h, L[k]? = some h := ⟨L[k]'(by rw [HN.out]; exact hlt), List.getElem?_eq_getElem _⟩
      obtain ⟨g, A', c', rfl, e0, hrow⟩ := HL.out.at HN.out hh
      have HSN : Hid (∀ (q : Nat) (x : ByteArray), Calls Tryd.prog 45 #[.slice A' hs.length c', .string x] (wr.drewN q) fun e w' => e = .returned (.int .i64 (sinI hs x)) ∧ wr.drewN q = w') := Lib.hid (fun q x => rsince_any (wr.drewN q) wr.heap.size A' hs hs.length c' x rfl ((RowIn.of_own hrow).drewN q) (HLB.out hs (List.mem_of_getElem? hh)))
      have HSC : Hid (rC (L.take (k + 1)) s t = z + one (decide (0 ≤ sinI hs s ∧ sinI hs s < sinI hs t))) := Lib.hid (by rw [take_snoc hh, rC_snoc, hok.out])
      have hk8 : (k : Int) < (n : Int) := by omega
      have hk9 : (0 : Int) ≤ (k : Int) := by omega
      clear hh hrow
      go_wp2_with fail
      go_quiet ((go_at_call 45; exact quiet_left (HSN.out _ _)))
      clear HSN e0
      generalize sinI hs s = y at *
      generalize sinI hs t = y2 at *
      by_cases hy : 0 ≤ y
      · by_cases hy2 : y < y2
        · have HE : Hid (rC (L.take (k + 1)) s t = z + 1) := Lib.hid (by rw [HSC.out, decide_eq_true ⟨hy, hy2⟩]; rfl)
          go_wp2_with fail
          go_roundw
          case rel => exact ⟨k + 1, z + 1, by omega, by omega, by go_num, by go_num, Lib.hid HE.out.symm, HL, Lib.hid (below_drewN hbw.out _)⟩
          case measure => simp [intOf]; omega
        · have HE : Hid (rC (L.take (k + 1)) s t = z) := Lib.hid (by rw [HSC.out, decide_eq_false (fun h => hy2 h.2)]; rfl)
          have dy : decide (y < y2) = false := decide_eq_false hy2
          go_wp2_with fail
          go_roundw
          case rel => exact ⟨k + 1, z, by omega, by omega, by go_num, rfl, Lib.hid HE.out.symm, HL, Lib.hid (below_drewN hbw.out _)⟩
          case measure => simp [intOf]; omega
      · have HE : Hid (rC (L.take (k + 1)) s t = z) := Lib.hid (by rw [HSC.out, decide_eq_false (fun h => hy h.1)]; rfl)
        have dy : decide (0 ≤ y) = false := decide_eq_false hy
        go_wp2_with fail
        go_roundw
        case rel => exact ⟨k + 1, z, by omega, by omega, by go_num, rfl, Lib.hid HE.out.symm, HL, Lib.hid (below_drewN hbw.out _)⟩
        case measure => simp [intOf]; omega
    · obtain rfl : n = k := by omega
      have HE : Hid (z = rC L s t) := Lib.hid (by rw [hok.out, ← HN.out, List.take_length])
      go_wp2_with fail
      go_ret
      exact ⟨ret_int (by rw [HE.out]), hbw.out⟩

/-! ### plain -/
theorem rBs_nn {l : List Ev} {g : Int} {ps : List ByteArray} {hs : List (ByteArray × Int)} (h : hs ∈ rBs l g ps) {x : ByteArray} {t : Int} (ht : sinP hs x = some t) : 0 ≤ t := by
  unfold rBs at h
  obtain ⟨p, _, hp⟩ := List.mem_flatMap.1 h
  unfold rB1 at hp
  obtain ⟨iv, _, rfl⟩ := List.mem_map.1 hp
  rw [sin_thP] at ht
  obtain ⟨e, he, _, _, _, rfl⟩ := (bas_some.1 ht).1
  exact (buyX_tick (ownB_mem.1 he).2.1).1
theorem rBs_lb (l : List Ev) (g : Int) (ps : List ByteArray) (hl : l.length ≤ 1000) : LenB (rBs l g ps) := fun hs h => by
  unfold rBs at h
  obtain ⟨p, _, hp⟩ := List.mem_flatMap.1 h
  unfold rB1 at hp
  obtain ⟨iv, _, rfl⟩ := List.mem_map.1 hp
  have := thP_len l p iv.1 iv.2
  omega
theorem rS_is (l : List Ev) (g : Int) (ps : List ByteArray) (x : ByteArray) : rS (rBs l g ps) x = nS (BD g l ps) x := by
  rw [← rBs_map]
  unfold rS nS
  rw [List.countP_map]
  refine List.countP_congr (fun hs hh => ?_)
  show decide (0 ≤ sinI hs x) = true ↔ (sinP hs x).isSome = true
  unfold sinI
  cases hx : sinP hs x with
  | none => simp
  | some t => have := rBs_nn hh hx; simpa using this
theorem rC_is (l : List Ev) (g : Int) (ps : List ByteArray) (x y : ByteArray) : rC (rBs l g ps) x y = nC (BD g l ps) x y := by
  rw [← rBs_map]
  unfold rC nC
  rw [List.countP_map]
  refine List.countP_congr (fun hs hh => ?_)
  show decide (0 ≤ sinI hs x ∧ sinI hs x < sinI hs y) = true ↔ behB (sinP hs) x y = true
  unfold sinI behB
  cases hx : sinP hs x with
  | none => simp
  | some t =>
    have h1 := rBs_nn hh hx
    cases hy : sinP hs y with
    | none => simp; intro _; omega
    | some u => simp; intro _; exact h1

set_option maxHeartbeats 2000000 in
set_option maxRecDepth 100000 in
theorem like_any (w : World) (bb base base' : Nat) (Bs : List Bsk) (A : Option Addr) (L : List (List (ByteArray × Int))) (n c : Nat) (a b : ByteArray) (hbk : BkAt w bb base Bs) (hn : L.length = n) (hl : HssIn w base' (.slice A n c) L) (hb : n ≤ 1000000) (hlb : LenB L) (ha : a.size ≤ maxLen) (hbm : b.size ≤ maxLen)
    (h1 : Bs.length = n) (h2 : ∀ x, nS Bs x = rS L x) (h3 : ∀ x y, nC Bs x y = rC L x y) :
    Calls Tryd.prog 11 #[.pointer (some ⟨bb, 0, none⟩), .slice A n c, .string a, .string b] w fun e w' => e = .returned (.bool true) ∧ Below w.heap.size w w' := by
  have HBK := Lib.hid hbk
  have HH := Lib.hid hl
  have HN := Lib.hid hn
  have HLB := Lib.hid hlb
  have HA := Lib.hid (all_any w bb base Bs hbk)
  have HS1 := Lib.hid (single_any w bb base Bs a hbk ha)
  have HR1 := Lib.hid (rsingle_any w base' A L n c a hn hl hb hlb)
  have HS2 := Lib.hid (single_any w bb base Bs b hbk hbm)
  have HR2 := Lib.hid (rsingle_any w base' A L n c b hn hl hb hlb)
  have HC1 := Lib.hid (count_any w bb base Bs a b hbk ha hbm)
  have HD1 := Lib.hid (rcount_any w base' A L n c a b hn hl hb hlb)
  rw [h1] at HA
  rw [h2] at HS1 HS2
  rw [h3] at HC1
  have HC2 : Hid (∀ W, Below w.heap.size w W → Calls Tryd.prog 15 #[.pointer (some ⟨bb, 0, none⟩), .string b, .string a] W fun e w' => e = .returned (.int .i64 (rC L b a)) ∧ W = w') := Lib.hid (fun W hW => by rw [← h3]; exact count_any W bb base Bs b a (HBK.out.below hW) hbm ha)
  have HD2 : Hid (∀ W, Below w.heap.size w W → Calls Tryd.prog 26 #[.slice A n c, .string b, .string a] W fun e w' => e = .returned (.int .i64 (rC L b a)) ∧ Below W.heap.size W w') := Lib.hid (fun W hW => rcount_any W base' A L n c b a HN.out (HH.out.below hW) hb HLB.out)
  clear hbk hn hl hlb h1 h2 h3 HBK HH HN HLB
  go_enter Tryd.func11, Tryd.ntmps11
  go_wp2_with fail
  refine HA.out.mono ?_
  rintro e w2 ⟨rfl, rfl⟩
  go_wp2_with fail
  refine HS1.out.mono ?_
  rintro e w2 ⟨rfl, rfl⟩
  go_wp2_with fail
  refine HR1.out.mono ?_
  rintro e w2 ⟨rfl, rfl⟩
  go_wp2_with fail
  refine HS2.out.mono ?_
  rintro e w2 ⟨rfl, rfl⟩
  go_wp2_with fail
  refine HR2.out.mono ?_
  rintro e w2 ⟨rfl, rfl⟩
  go_wp2_with fail
  refine HC1.out.mono ?_
  rintro e w2 ⟨rfl, rfl⟩
  go_wp2_with fail
  refine HD1.out.mono ?_
  rintro e w2 ⟨rfl, hb2⟩
  have HB2 := Lib.hid hb2
  clear hb2
  go_wp2_with fail
  refine (HC2.out _ HB2.out).mono ?_
  rintro e w3 ⟨rfl, rfl⟩
  go_wp2_with fail
  refine (HD2.out _ HB2.out).mono ?_
  rintro e w3 ⟨rfl, hb3⟩
  have HB3 : Hid (Below w.heap.size w w3) := Lib.hid (HB2.out.trans (hb3.mono HB2.out.size))
  clear hb3
  go_wp2_with fail
  go_ret
  exact ⟨rfl, HB3.out⟩

set_option maxHeartbeats 4000000 in
set_option maxRecDepth 100000 in
theorem basketCounts_walk (gap : Int) (A : Option Addr) (n c : Nat) (l : List Ev) (a b : ByteArray) (w : World) (ha : EvArg w A n c l) (has : a.size ≤ 140737488355328) (hbs : b.size ≤ 140737488355328) (hg : GlobAt w) :
    Calls Tryd.prog 3 #[.int .i64 gap, .slice A n c, .string a, .string b] w fun e w' => e = .returned (.bool true) ∧ Below w.heap.size w w' := by
  have HLG := Lib.hid (long_any w A l n c ha)
  obtain ⟨hn, hl, hnb, hnil, hbd⟩ := ha
  have HN := Lib.hid hn
  have HL := Lib.hid hl
  have HG := Lib.hid hg
  clear hn hl hbd hg
  go_enter Tryd.func3, Tryd.ntmps3
  go_wp2_with fail
  refine HLG.out.mono ?_
  rintro e w1 ⟨bl, rfl, hbl, hb1⟩
  have HB1 := Lib.hid hb1
  have HW1 := Lib.hid (awake_any w1 (HG.out.keep hb1 (Nat.le_refl _)))
  clear HLG hb1
  cases bl
  rotate_left
  · go_wp2_with fail
    refine HW1.out.mono ?_
    rintro e w2 ⟨rfl, hb2⟩
    have HB2 : Hid (Below w.heap.size w w2) := Lib.hid (HB1.out.trans (hb2.mono HB1.out.size))
    go_wp2_with fail
    go_ret
    exact ⟨rfl, HB2.out⟩
  obtain ⟨h30, hsm⟩ := hbl rfl
  have HSM := Lib.hid hsm
  clear hbl hsm
  by_cases ga : (60 : Int) < (a.size : Int)
  · go_wp2_with fail
    refine HW1.out.mono ?_
    rintro e w2 ⟨rfl, hb2⟩
    have HB2 : Hid (Below w.heap.size w w2) := Lib.hid (HB1.out.trans (hb2.mono HB1.out.size))
    go_wp2_with fail
    go_ret
    exact ⟨rfl, HB2.out⟩
  have da : decide ((60 : Int) < (a.size : Int)) = false := decide_eq_false ga
  by_cases gb : (60 : Int) < (b.size : Int)
  · go_wp2_with fail
    refine HW1.out.mono ?_
    rintro e w2 ⟨rfl, hb2⟩
    have HB2 : Hid (Below w.heap.size w w2) := Lib.hid (HB1.out.trans (hb2.mono HB1.out.size))
    go_wp2_with fail
    go_ret
    exact ⟨rfl, HB2.out⟩
  have db : decide ((60 : Int) < (b.size : Int)) = false := decide_eq_false gb
  have HO1 := Lib.hid (of_any gap A l n c w1 w.heap.size HN.out (HL.out.below HB1.out) HB1.out.size (by omega) (fun e he => (HSM.out e he).sh) (HG.out.keep HB1.out (Nat.le_refl _)))
  clear HW1
  go_wp2_with fail
  refine HO1.out.mono ?_
  rintro e w5 ⟨bb, D, rfl, hD, hlD, hk5, hb5⟩
  have HB5 : Hid (Below w.heap.size w w5) := Lib.hid (HB1.out.trans (hb5.mono HB1.out.size))
  have HK5 := Lib.hid hk5
  have HD := Lib.hid hD
  have HBS := Lib.hid (rbaskets_any w5 w.heap.size A l n c gap HN.out (HL.out.below HB5.out) HB5.out.size (by omega) (fun e he => (HSM.out e he).sh))
  clear HO1 hk5 hb5 hD hlD
  go_wp2_with fail
  refine HBS.out.mono ?_
  rintro e w6 ⟨ps, A6, c6, hps, rfl, hh6, hl6, hb6⟩
  have HB6 : Hid (Below w.heap.size w w6) := Lib.hid (HB5.out.trans (hb6.mono HB5.out.size))
  have HLK := Lib.hid (like_any w6 bb _ _ (BD (clampG gap) l D) A6 (rBs l (clampG gap) ps) _ c6 a b (HK5.out.below hb6) rfl hh6 (by omega) (rBs_lb _ _ _ (by rw [HN.out]; omega)) (by unfold maxLen; omega) (by unfold maxLen; omega)
    (by rw [BD_len HD.out hps, ← rBs_map, List.length_map]) (fun x => by rw [BD_S HD.out hps, rS_is]) (fun x y => by rw [BD_C HD.out hps, rC_is]))
  clear HBS hps hh6 hl6 hb6 HK5
  go_wp2_with fail
  refine HLK.out.mono ?_
  rintro e w7 ⟨rfl, hb7⟩
  have HB7 : Hid (Below w.heap.size w w7) := Lib.hid (HB6.out.trans (hb7.mono HB6.out.size))
  have HAW := Lib.hid (awake_any w7 (HG.out.keep HB7.out (Nat.le_refl _)))
  clear HLK hb7
  go_wp2_with fail
  refine HAW.out.mono ?_
  rintro e w9 ⟨rfl, hb9⟩
  have HB9 : Hid (Below w.heap.size w w9) := Lib.hid (HB7.out.trans (hb9.mono HB7.out.size))
  go_wp2_with fail
  go_ret
  exact ⟨rfl, HB9.out⟩

end Go.Proofs.YtcgangmmehbdoaaDoor
