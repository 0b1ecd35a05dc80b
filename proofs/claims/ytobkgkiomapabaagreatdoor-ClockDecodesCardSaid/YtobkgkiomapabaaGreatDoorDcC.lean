/- Lines cut, words split, numbers read back: plain; strings.Cut, strings.Split, strconv.Atoi. -/
import Derived.Test.YtobkgkiomapabaaGreatDoorDcP
import Derived.Test.YtobkgkiomapabaaGreatDoorLay2
import Derived.Lib.AtoiAllCases
import Derived.Lib.AtoiTie
namespace Go.Proofs.YtobkgkiomapabaaGreatDoor
open Go.Shelf Go.RowKit Go.Maps
set_option linter.unusedVariables false

theorem idxc_hit (c : UInt8) : ∀ (s : List UInt8) (k : Nat), s[k]? = some c → (∀ j b, j < k → s[j]? = some b → b ≠ c) → Lib.index s [c] = k
  | [], k, h, _ => by simp at h
  | b :: s, 0, h, _ => by
    simp at h
    subst h
    simp [Lib.index]
  | b :: s, k + 1, h, hn => by
    have hb : b ≠ c := hn 0 b (by omega) rfl
    have ih := idxc_hit c s k (by simpa using h) (fun j d hj hc => hn (j + 1) d (by omega) (by simpa using hc))
    unfold Lib.index
    rw [ih]
    simp [List.isPrefixOf, Ne.symm hb]
theorem idxc_miss (c : UInt8) : ∀ (s : List UInt8), (∀ (j : Nat) b, s[j]? = some b → b ≠ c) → Lib.index s [c] = -1
  | [], _ => by simp [Lib.index]
  | b :: s, hn => by
    have hb : b ≠ c := hn 0 b rfl
    have ih := idxc_miss c s (fun j d hc => hn (j + 1) d (by simpa using hc))
    unfold Lib.index
    rw [ih]
    simp [List.isPrefixOf, Ne.symm hb]
def NoC (c : UInt8) (s : ByteArray) : Prop := ∀ (j : Nat) b, s.data.toList[j]? = some b → b ≠ c
def partsS (s : ByteArray) : List ByteArray := Lib.splitB ⟨#[32]⟩ 0 (Lib.countB s ⟨#[32]⟩) s
theorem partsS_len (s : ByteArray) : (partsS s).length = Lib.countB s ⟨#[32]⟩ + 1 := Lib.splitB_all ⟨#[32]⟩ (by decide) 0 _ s rfl
theorem partsS_hit {u : ByteArray} {k : Nat} (h : u.data.toList[k]? = some 32) (hn : ∀ j b, j < k → u.data.toList[j]? = some b → b ≠ 32) : partsS u = u.extract 0 k :: partsS (u.extract (k + 1) u.size) := by
  have hi : Lib.indexB u ⟨#[32]⟩ = (k : Int) := idxc_hit 32 u.data.toList k h hn
  unfold partsS
  rw [Lib.countB_hit u ⟨#[32]⟩ k (by decide) hi, Nat.add_comm 1, Lib.splitB_hit ⟨#[32]⟩ 0 _ u k hi]
  rfl
theorem partsS_one {x : ByteArray} (h : NoC 32 x) : partsS x = [x] := Lib.splitB_miss ⟨#[32]⟩ 0 _ x (idxc_miss 32 x.data.toList h)
theorem get_mid (x : ByteArray) (c : UInt8) (r : ByteArray) : (x ++ ⟨#[c]⟩ ++ r).data.toList[x.size]? = some c := by
  have e : (x ++ ⟨#[c]⟩ ++ r).data.toList = x.data.toList ++ (c :: r.data.toList) := by simp [ByteArray.data_append]
  rw [e, List.getElem?_append_right (by rw [show x.data.toList.length = x.size from by simp]; omega)]
  simp
theorem get_head {x : ByteArray} {c : UInt8} {r : ByteArray} {j : Nat} (hj : j < x.size) : (x ++ ⟨#[c]⟩ ++ r).data.toList[j]? = x.data.toList[j]? := by
  have e : (x ++ ⟨#[c]⟩ ++ r).data.toList = x.data.toList ++ (c :: r.data.toList) := by simp [ByteArray.data_append]
  rw [e, List.getElem?_append_left (by simpa using hj)]
theorem ext_head (x : ByteArray) (c : UInt8) (r : ByteArray) : (x ++ ⟨#[c]⟩ ++ r).extract 0 x.size = x := by
  apply ba_eq
  have e : (x ++ ⟨#[c]⟩ ++ r).data.toList = x.data.toList ++ (c :: r.data.toList) := by simp [ByteArray.data_append]
  rw [Lib.extract_from_zero, e, List.take_append_of_le_length (by simp), List.take_of_length_le (by simp)]
theorem ext_rest (x : ByteArray) (c : UInt8) (r : ByteArray) : (x ++ ⟨#[c]⟩ ++ r).extract (x.size + 1) (x ++ ⟨#[c]⟩ ++ r).size = r := by
  apply ba_eq
  have e : (x ++ ⟨#[c]⟩ ++ r).data.toList = x.data.toList ++ (c :: r.data.toList) := by simp [ByteArray.data_append]
  rw [Lib.extract_to_end, e, List.drop_append, List.drop_of_length_le (by simp)]
  simp
theorem partsS_cons {x : ByteArray} (r : ByteArray) (h : NoC 32 x) : partsS (x ++ ⟨#[32]⟩ ++ r) = x :: partsS r := by
  rw [partsS_hit (k := x.size) (get_mid x 32 r) (fun j b hj hb => h j b (by rwa [get_head hj] at hb)), ext_head, ext_rest]
/-- Ahead of, and behind, the first line feed. -/
def headN (s : ByteArray) : ByteArray := ⟨(Lib.cut s.data.toList [10]).1.toArray⟩
def restN (s : ByteArray) : ByteArray := ⟨(Lib.cut s.data.toList [10]).2.1.toArray⟩
def cutsN (s : ByteArray) : Bool := (Lib.cut s.data.toList [10]).2.2
theorem cutN_hit {u : ByteArray} {k : Nat} (h : u.data.toList[k]? = some 10) (hn : ∀ j b, j < k → u.data.toList[j]? = some b → b ≠ 10) : headN u = u.extract 0 k ∧ restN u = u.extract (k + 1) u.size ∧ cutsN u = true :=
  Lib.cutB_hit u ⟨#[10]⟩ k (idxc_hit 10 u.data.toList k h hn)
theorem cutN_miss {u : ByteArray} (h : NoC 10 u) : headN u = u ∧ restN u = ⟨#[]⟩ ∧ cutsN u = false :=
  Lib.cutB_miss u ⟨#[10]⟩ (idxc_miss 10 u.data.toList h)
/-- Every text has a first line feed, or none. -/
theorem nl_cases (s : ByteArray) (c : UInt8) : NoC c s ∨ ∃ x r, s = x ++ ⟨#[c]⟩ ++ r ∧ NoC c x := by
  by_cases h : NoC c s
  · exact Or.inl h
  · refine Or.inr ?_
    have hex : ∃ k : Nat, s.data.toList[k]? = some c := by
      unfold NoC at h
      obtain ⟨j, hj⟩ := Classical.not_forall.1 h
      obtain ⟨b, hb⟩ := Classical.not_forall.1 hj
      obtain ⟨hb1, hb2⟩ := Classical.not_imp.1 hb
      exact ⟨j, by rw [hb1, Classical.not_not.1 hb2]⟩
    have hmin : ∃ k : Nat, s.data.toList[k]? = some c ∧ ∀ j, j < k → s.data.toList[j]? ≠ some c := by
      obtain ⟨k, hk⟩ := hex
      induction k using Nat.strongRecOn with
      | _ k ih =>
        by_cases hm : ∃ j, j < k ∧ s.data.toList[j]? = some c
        · obtain ⟨j, hj, hj2⟩ := hm
          exact ih j hj hj2
        · exact ⟨k, hk, fun j hj h2 => hm ⟨j, hj, h2⟩⟩
    obtain ⟨k, hk, hlt⟩ := hmin
    have hkl := (List.getElem?_eq_some_iff.1 hk).1
    refine ⟨⟨(s.data.toList.take k).toArray⟩, ⟨(s.data.toList.drop (k + 1)).toArray⟩, ?_, fun j b hb => ?_⟩
    · apply ba_eq
      simp only [ByteArray.data_append, Array.toList_append]
      rw [List.append_assoc]
      have h2 : s.data.toList = s.data.toList.take k ++ s.data.toList.drop k := (List.take_append_drop k _).symm
      have h3 : s.data.toList.drop k = c :: s.data.toList.drop (k + 1) := by
        rw [List.drop_eq_getElem_cons hkl]
        congr 1
        exact (List.getElem?_eq_some_iff.1 hk).2
      conv => lhs; rw [h2, h3]
      simp
    · intro e
      subst e
      have hj : j < k := by
        have := (List.getElem?_eq_some_iff.1 hb).1
        simp at this
        omega
      refine hlt j hj ?_
      rw [← hb]
      simp [hj]
theorem noC_of {c : UInt8} {s : ByteArray} (h : ∀ b ∈ s.data.toList, b ≠ c) : NoC c s := fun j b hb => h b (List.mem_of_getElem? hb)
theorem ok_ne {b c : UInt8} (h : okN b.toNat) (hc : ¬ okN c.toNat) : b ≠ c := fun e => hc (e ▸ h)
theorem dig_byte (n : Nat) : ∀ b ∈ Lib.decDigits n, 48 ≤ b.toNat ∧ b.toNat ≤ 57 := by
  induction n using Nat.strongRecOn with
  | _ n ih =>
    intro b hb
    rw [Lib.decDigits] at hb
    split at hb
    · rw [List.mem_singleton] at hb
      subst hb
      rw [UInt8.toNat_ofNat_of_lt' (by show _ < 256; omega)]
      omega
    · rw [List.mem_append, List.mem_singleton] at hb
      rcases hb with hb | hb
      · exact ih (n / 10) (by omega) b hb
      · subst hb
        rw [UInt8.toNat_ofNat_of_lt' (by show _ < 256; omega)]
        omega
theorem noC_append {c : UInt8} {a b : ByteArray} (ha : NoC c a) (hb : NoC c b) : NoC c (a ++ b) := by
  have q : ∀ {x : ByteArray}, NoC c x → ∀ y ∈ x.data.toList, y ≠ c := fun hx y hy => by
    obtain ⟨j, hj⟩ := List.mem_iff_getElem?.1 hy
    exact hx j y hj
  refine noC_of (fun y hy => ?_)
  rw [ByteArray.data_append, Array.toList_append, List.mem_append] at hy
  rcases hy with hy | hy
  · exact q ha y hy
  · exact q hb y hy
theorem digV {k : Nat} (h : k < 10) : Lib.digitVal (UInt8.ofNat (48 + k)) = some k := by
  unfold Lib.digitVal
  rw [UInt8.toNat_ofNat_of_lt' (by show _ < 256; omega), if_pos (by omega)]
  congr 1
  omega
theorem decFrom_snoc (b : UInt8) (d : Nat) (hb : Lib.digitVal b = some d) : ∀ (l : List UInt8) (acc n : Nat), Lib.decFrom acc l = some n → Lib.decFrom acc (l ++ [b]) = some (n * 10 + d)
  | [], acc, n, h => by
    simp only [Lib.decFrom, Option.some.injEq] at h
    subst h
    simp [Lib.decFrom, hb]
  | c :: l, acc, n, h => by
    simp only [Lib.decFrom] at h
    simp only [List.cons_append, Lib.decFrom]
    split at h
    · rename_i d' hd
      exact decFrom_snoc b d hb l _ _ h
    · cases h
theorem dec_dig (n : Nat) : Lib.decFrom 0 (Lib.decDigits n) = some n := by
  induction n using Nat.strongRecOn with
  | _ n ih =>
    rw [Lib.decDigits]
    split
    · rename_i h
      have := decFrom_snoc _ n (digV h) [] 0 0 rfl
      simpa using this
    · rw [decFrom_snoc _ (n % 10) (digV (by omega)) _ _ _ (ih (n / 10) (by omega))]
      congr 1
      omega
theorem dig_ne (n : Nat) : Lib.decDigits n ≠ [] := by
  intro h
  have h1 : (Lib.decDigits n).length = 0 := by rw [h]; rfl
  have := Lib.nDigits_pos n
  rw [Lib.decDigits_length] at h1
  omega
theorem cutN_line {x : ByteArray} (r : ByteArray) (h : NoC 10 x) : headN (x ++ ⟨#[10]⟩ ++ r) = x ∧ restN (x ++ ⟨#[10]⟩ ++ r) = r ∧ cutsN (x ++ ⟨#[10]⟩ ++ r) = true := by
  obtain ⟨h1, h2, h3⟩ := cutN_hit (u := x ++ ⟨#[10]⟩ ++ r) (k := x.size) (get_mid x 10 r) (fun j b hj hb => h j b (by have : (x ++ ⟨#[10]⟩ ++ r).data.toList[j]? = x.data.toList[j]? := get_head hj; rwa [this] at hb))
  exact ⟨h1.trans (ext_head x 10 r), h2.trans (ext_rest x 10 r), h3⟩
theorem nd_le : ∀ (k n : Nat), n < 10 ^ (k + 1) → Lib.nDigits n ≤ k + 1
  | 0, n, h => by rw [Lib.nDigits_small (by omega)]; omega
  | k + 1, n, h => by
    by_cases h1 : n < 10
    · rw [Lib.nDigits_small h1]; omega
    · rw [Lib.nDigits_big h1]
      have := nd_le k (n / 10) (by rw [Nat.pow_succ] at h; omega)
      omega
theorem atoi_dig {n : Nat} (h : n ≤ 1099511627776) : Lib.atoiAll (Lib.decDigits n) = .ok (n : Int) := by
  have hl : (Lib.decDigits n).length ≤ 13 := by
    rw [Lib.decDigits_length]
    exact nd_le 12 n (by omega)
  cases hd : Lib.decDigits n with
  | nil => exact absurd hd (dig_ne n)
  | cons c r =>
    have hc := dig_byte n c (by rw [hd]; simp)
    rw [Lib.atoiAll_plain c r (by omega) (by omega)]
    have hm : Lib.parseMag (c :: r) = .ok n := by
      rw [Lib.parseMag_short _ (by rw [← hd]; omega)]
      have : Lib.decNat (c :: r) = some n := by
        unfold Lib.decNat
        rw [← hd, if_neg (by simp [dig_ne n]), dec_dig]
      rw [this]
      rfl
    rw [hm]
    unfold Lib.signless
    simp only
    rw [if_neg (by omega)]
theorem atoi_itoa {n : Int} (h0 : -1 ≤ n) (h : n ≤ 1099511627776) : Lib.atoiAll (Lib.itoa n) = .ok n := by
  by_cases hn : n < 0
  · obtain rfl : n = -1 := by omega
    rw [show (-1 : Int) = -((1 : Nat) : Int) from rfl, Lib.itoa_neg 1 (by omega), Lib.decDigits_one (by omega), Lib.atoiAll_minus]
    rfl
  · obtain ⟨m, rfl⟩ : ∃ m : Nat, n = m := ⟨n.toNat, by omega⟩
    rw [Lib.itoa_nonneg]
    exact atoi_dig (by omega)
theorem itoa_byte {n : Int} {c : UInt8} (hc : c = 32 ∨ c = 10) : NoC c (itoaB n) := by
  refine noC_of (fun b hb e => ?_)
  subst e
  rw [itoaB_data] at hb
  by_cases hn : n < 0
  · obtain ⟨m, rfl⟩ : ∃ m : Nat, n = -(m : Int) := ⟨n.natAbs, by omega⟩
    rw [Lib.itoa_neg m (by omega), List.mem_cons] at hb
    rcases hb with rfl | hb
    · rcases hc with h | h <;> cases h
    · have := dig_byte m b hb
      rcases hc with rfl | rfl <;> revert this <;> decide
  · obtain ⟨m, rfl⟩ : ∃ m : Nat, n = m := ⟨n.toNat, by omega⟩
    rw [Lib.itoa_nonneg] at hb
    have := dig_byte m b hb
    rcases hc with rfl | rfl <;> revert this <;> decide
theorem name_noC {s : ByteArray} (h : nameB s = true) {c : UInt8} (hc : c = 32 ∨ c = 10) : NoC c s := by
  have h3 : ∀ (j : Nat) (hj : j < s.size), okN (s[j].toNat : Int) := by
    unfold nameB at h
    rw [Bool.and_eq_true] at h
    exact (idx_all s).1 (of_decide_eq_true h.2)
  intro j b hb e
  subst e
  obtain ⟨hj, hb2⟩ := List.getElem?_eq_some_iff.1 hb
  have h4 := h3 j (by simpa using hj)
  have e : s[j]'(by simpa using hj) = b := by rw [← hb2]; rfl
  rw [e] at h4
  unfold okN at h4
  rcases hc with rfl | rfl <;> revert h4 <;> decide
theorem rest_less {s : ByteArray} (h : cutsN s = true) : (restN s).size < s.size := by
  rcases nl_cases s 10 with h1 | ⟨x, r, rfl, hx⟩
  · rw [(cutN_miss h1).2.2] at h; cases h
  · rw [(cutN_line r hx).2.1, ba_size, ba_size]
    have : (⟨#[10]⟩ : ByteArray).size = 1 := rfl
    omega

/-! ### a line -/
def GoodN (p : ByteArray) (v : Int) : Prop := Lib.atoiAll p.data.toList = .ok v ∧ -1 ≤ v ∧ v ≤ 1099511627776
theorem GoodN.one {p : ByteArray} {v v' : Int} (h : GoodN p v) (k : GoodN p v') : v = v' := by
  have := h.1.symm.trans k.1
  injection this
theorem good_itoa {n : Int} (h0 : -1 ≤ n) (h : n ≤ 1099511627776) : GoodN (itoaB n) n := ⟨by rw [itoaB_data]; exact atoi_itoa h0 h, h0, h⟩
/-- The line ahead of s: a word and N numbers. -/
def LineOk (N : Nat) (s word : ByteArray) (lv : List Int) : Prop := cutsN s = true ∧ (partsS (headN s)).length = N + 1 ∧ (partsS (headN s))[0]? = some word ∧ lv.length = N ∧ ∀ (i : Nat) p, i < N → (partsS (headN s))[i + 1]? = some p → ∃ v, lv[i]? = some v ∧ GoodN p v
theorem LineOk.one {N : Nat} {s w w' : ByteArray} {lv lv' : List Int} (h : LineOk N s w lv) (k : LineOk N s w' lv') : w = w' ∧ lv = lv' := by
  obtain ⟨h1, h2, h3, h4, h5⟩ := h
  obtain ⟨k1, k2, k3, k4, k5⟩ := k
  refine ⟨Option.some.inj (h3.symm.trans k3), List.ext_getElem? (fun i => ?_)⟩
  by_cases hi : i < N
  · obtain ⟨p, hp⟩ : ∃ p, (partsS (headN s))[i + 1]? = some p := ⟨_, List.getElem?_eq_getElem (by omega)⟩
    obtain ⟨v, hv, hg⟩ := h5 i p hi hp
    obtain ⟨v', hv', hg'⟩ := k5 i p hi hp
    rw [hv, hv', hg.one hg']
  · rw [List.getElem?_eq_none (by omega), List.getElem?_eq_none (by omega)]
theorem line2_ok {nm : ByteArray} {a b : Int} (r : ByteArray) (h1 : NoC 32 nm) (h2 : NoC 10 nm) (ha : -1 ≤ a ∧ a ≤ 1099511627776) (hb : -1 ≤ b ∧ b ≤ 1099511627776) :
    LineOk 2 (⟨(lineC nm [a, b]).toArray⟩ ++ r) nm [a, b] ∧ restN (⟨(lineC nm [a, b]).toArray⟩ ++ r) = r := by
  have e : (⟨(lineC nm [a, b]).toArray⟩ : ByteArray) ++ r = (nm ++ ⟨#[32]⟩ ++ (itoaB a ++ ⟨#[32]⟩ ++ itoaB b)) ++ ⟨#[10]⟩ ++ r := by
    apply ba_eq
    unfold lineC
    simp [ByteArray.data_append, itoaB_data]
  have hs : NoC 10 (⟨#[32]⟩ : ByteArray) := noC_of (fun b hb => by simp at hb; subst hb; decide)
  have hn : NoC 10 (nm ++ ⟨#[32]⟩ ++ (itoaB a ++ ⟨#[32]⟩ ++ itoaB b)) := noC_append (noC_append h2 hs) (noC_append (noC_append (itoa_byte (Or.inr rfl)) hs) (itoa_byte (Or.inr rfl)))
  obtain ⟨c1, c2, c3⟩ := cutN_line r hn
  have hp : partsS (nm ++ ⟨#[32]⟩ ++ (itoaB a ++ ⟨#[32]⟩ ++ itoaB b)) = [nm, itoaB a, itoaB b] := by
    rw [partsS_cons _ h1, partsS_cons _ (itoa_byte (Or.inl rfl)), partsS_one (itoa_byte (Or.inl rfl))]
  rw [e]
  refine ⟨⟨c3, ?_⟩, c2⟩
  rw [c1, hp]
  refine ⟨rfl, rfl, rfl, fun i p hi hp => ?_⟩
  rcases i with _ | _ | i
  · cases hp; exact ⟨a, rfl, good_itoa ha.1 ha.2⟩
  · cases hp; exact ⟨b, rfl, good_itoa hb.1 hb.2⟩
  · omega
theorem line4_ok {nm : ByteArray} {a b c d : Int} (r : ByteArray) (h1 : NoC 32 nm) (h2 : NoC 10 nm) (ha : -1 ≤ a ∧ a ≤ 1099511627776) (hb : -1 ≤ b ∧ b ≤ 1099511627776) (hc : -1 ≤ c ∧ c ≤ 1099511627776) (hd : -1 ≤ d ∧ d ≤ 1099511627776) :
    LineOk 4 (⟨(lineC nm [a, b, c, d]).toArray⟩ ++ r) nm [a, b, c, d] ∧ restN (⟨(lineC nm [a, b, c, d]).toArray⟩ ++ r) = r := by
  have e : (⟨(lineC nm [a, b, c, d]).toArray⟩ : ByteArray) ++ r = (nm ++ ⟨#[32]⟩ ++ (itoaB a ++ ⟨#[32]⟩ ++ (itoaB b ++ ⟨#[32]⟩ ++ (itoaB c ++ ⟨#[32]⟩ ++ itoaB d)))) ++ ⟨#[10]⟩ ++ r := by
    apply ba_eq
    unfold lineC
    simp [ByteArray.data_append, itoaB_data]
  have hs : NoC 10 (⟨#[32]⟩ : ByteArray) := noC_of (fun b hb => by simp at hb; subst hb; decide)
  have hn : NoC 10 (nm ++ ⟨#[32]⟩ ++ (itoaB a ++ ⟨#[32]⟩ ++ (itoaB b ++ ⟨#[32]⟩ ++ (itoaB c ++ ⟨#[32]⟩ ++ itoaB d)))) := noC_append (noC_append h2 hs) (noC_append (noC_append (itoa_byte (Or.inr rfl)) hs) (noC_append (noC_append (itoa_byte (Or.inr rfl)) hs) (noC_append (noC_append (itoa_byte (Or.inr rfl)) hs) (itoa_byte (Or.inr rfl)))))
  obtain ⟨c1, c2, c3⟩ := cutN_line r hn
  have hp : partsS (nm ++ ⟨#[32]⟩ ++ (itoaB a ++ ⟨#[32]⟩ ++ (itoaB b ++ ⟨#[32]⟩ ++ (itoaB c ++ ⟨#[32]⟩ ++ itoaB d)))) = [nm, itoaB a, itoaB b, itoaB c, itoaB d] := by
    rw [partsS_cons _ h1, partsS_cons _ (itoa_byte (Or.inl rfl)), partsS_cons _ (itoa_byte (Or.inl rfl)), partsS_cons _ (itoa_byte (Or.inl rfl)), partsS_one (itoa_byte (Or.inl rfl))]
  rw [e]
  refine ⟨⟨c3, ?_⟩, c2⟩
  rw [c1, hp]
  refine ⟨rfl, rfl, rfl, fun i p hi hp => ?_⟩
  rcases i with _ | _ | _ | _ | i
  · cases hp; exact ⟨a, rfl, good_itoa ha.1 ha.2⟩
  · cases hp; exact ⟨b, rfl, good_itoa hb.1 hb.2⟩
  · cases hp; exact ⟨c, rfl, good_itoa hc.1 hc.2⟩
  · cases hp; exact ⟨d, rfl, good_itoa hd.1 hd.2⟩
  · omega

/-! ### the library -/
/-- internal/bytealg.MaxLen holds an int. -/
def GlobAt (w : World) : Prop := 0 < w.heap.size ∧ ∃ m, w.cell? ⟨0, 0, none⟩ = some (.int .i64 m)
theorem GlobAt.keep {w w' : World} (h : GlobAt w) {B : Nat} (hb : Below B w w') (hB : w.heap.size ≤ B) : GlobAt w' := by
  obtain ⟨h0, m, hm⟩ := h
  exact ⟨Nat.lt_of_lt_of_le h0 hb.size, m, by rw [← hm]; exact hb.cell (p := ⟨0, 0, none⟩) (Nat.lt_of_lt_of_le h0 hB)⟩
theorem GlobAt.alloc {w : World} (h : GlobAt w) (o : Obj) : GlobAt (w.alloc o) := h.keep ((Below.refl w.heap.size w).alloc (Nat.le_refl _) o) (Nat.le_refl _)
theorem GlobAt.drewN {w : World} (h : GlobAt w) (n : Nat) : GlobAt (w.drewN n) := h
theorem GlobAt.drew {w : World} (h : GlobAt w) : GlobAt w.drew := h
theorem GlobAt.kept {w w' : World} {S : Nat → Prop} (h : GlobAt w) (k : Kept S w w') (hS : ∀ i, i ≤ 0 → ¬ S i) : GlobAt w' := by
  obtain ⟨h0, m, hm⟩ := h
  exact ⟨Nat.lt_of_lt_of_le h0 k.size, m, by rw [← hm]; exact k.cell (p := ⟨0, 0, none⟩) h0 (hS _ (Nat.le_refl _))⟩
theorem glob_of {W : World} (h : W.ShapedOpen Tryz.prog) : GlobAt W := by
  obtain ⟨m, hm⟩ := Tryz.laysSplit.s1_3 W h
  refine ⟨?_, m, hm⟩
  rcases Nat.lt_or_ge 0 W.heap.size with h1 | h1
  · exact h1
  · have hm2 : W.cell? ⟨0, 0, none⟩ = some (.int .i64 m) := hm
    unfold World.cell? at hm2
    rw [Array.getElem?_eq_none h1] at hm2
    simp at hm2
def InI (v : Int) : Prop := -9223372036854775808 ≤ v ∧ v ≤ 9223372036854775807
theorem cutN_any (s : ByteArray) (w : World) (hs : s.size < 4294967281) (hg : GlobAt w) :
    Calls Tryz.prog 13 #[.string s, .string ⟨#[10]⟩] w fun e w' => e = .returned (.tuple #[.string (headN s), .string (restN s), .bool (cutsN s)]) ∧ ∃ n, w' = w.drewN n := by
  obtain ⟨_, m, hm⟩ := hg
  exact Any.strings_Cut { Tryz.laysCut with } s ⟨#[10]⟩ m w hs hm
theorem splitS_any (s : ByteArray) (w : World) (hs : s.size < 4294967281) (hg : GlobAt w) :
    Calls Tryz.prog 14 #[.string s, .string ⟨#[32]⟩] w fun e w' => e = .returned (.slice (some ⟨w.heap.size, 0, none⟩) (partsS s).length (partsS s).length) ∧ w' = w.alloc (.cells ((partsS s).map Value.string).toArray 9) := by
  obtain ⟨_, m, hm⟩ := hg
  rw [partsS_len]
  exact Any.strings_Split { Tryz.laysSplit with } Tryz.laysSplit.i9 s ⟨#[32]⟩ m w hs hm (by decide)
/-- The library's two errors are there. -/
def VarIs (w : World) (n : String) : Prop := ∃ tp p, w.var? Tryz.prog n = some #[.iface tp p]
def ErrAt (w : World) : Prop := VarIs w "strconv.ErrSyntax" ∧ VarIs w "strconv.ErrRange"
theorem VarIs.keep {w w' : World} {n : String} (h : VarIs w n) (hb : Below w.heap.size w w') : VarIs w' n := by
  obtain ⟨tp, p, h⟩ := h
  refine ⟨tp, p, ?_⟩
  unfold World.var? at *
  cases hg : Tryz.prog.globalNamed n with
  | none => simp [hg] at h
  | some g =>
    simp only [hg, Option.bind_some] at h ⊢
    have hlt : g < w.heap.size := by
      rcases Nat.lt_or_ge g w.heap.size with h' | h'
      · exact h'
      · rw [Array.getElem?_eq_none h'] at h; simp at h
    rw [hb.block g hlt]
    exact h
theorem ErrAt.keep {w w' : World} (h : ErrAt w) (hb : Below w.heap.size w w') : ErrAt w' := ⟨h.1.keep hb, h.2.keep hb⟩
/-- What Atoi makes of a word. -/
def AtoiR (s : ByteArray) (v : Int) (ok : Bool) : Prop := InI v ∧ (ok = true → Lib.atoiAll s.data.toList = .ok v) ∧ (ok = false → ∀ z, Lib.atoiAll s.data.toList ≠ .ok z)
def AtoiE (s : ByteArray) (e : Ending) : Prop := (∃ v, e = .returned (.tuple #[.int .i64 v, .nilIface]) ∧ AtoiR s v true) ∨ ∃ v t N, e = .returned (.tuple #[.int .i64 v, .iface t (.pointer (some ⟨N, 0, none⟩))]) ∧ AtoiR s v false
theorem atoi_any (s : ByteArray) (w : World) (hs : s.size ≤ 1000000) (he : ErrAt w) : Calls Tryz.prog 15 #[.string s] w fun e w' => AtoiE s e ∧ Below w.heap.size w w' := by
  cases h : Lib.atoiAll s.data.toList
  · rename_i v
    refine Calls.mono (Any.strconv_Atoi_ok Tryz.laysC172 s (by omega) v h w) ?_
    rintro e w' ⟨rfl, hw⟩
    refine ⟨Or.inl ⟨v, rfl, Lib.atoiAll_bounds h, fun _ => h, fun h => by cases h⟩, ?_⟩
    rcases hw with rfl | ⟨t, rfl⟩
    · exact Below.refl _ _
    · exact Lib.bytesWorld_below _ _ _
  · obtain ⟨⟨tp, p, hv⟩, _⟩ := he
    refine Calls.mono (Any.strconv_Atoi_syntax_var Tryz.laysC172 s (by omega) h tp p w hv) ?_
    rintro e w' ⟨N, rfl, _, _, hb⟩
    exact ⟨Or.inr ⟨0, _, N, rfl, ⟨by decide, by decide⟩, fun h => (by cases h), fun _ z hz => by rw [h] at hz; cases hz⟩, hb⟩
  · obtain ⟨_, tp, p, hv⟩ := he
    refine Calls.mono (Any.strconv_Atoi_range_var Tryz.laysC172 s (by omega) h tp p w hv) ?_
    rintro e w' ⟨N, rfl, _, _, hb⟩
    exact ⟨Or.inr ⟨_, _, N, rfl, Lib.atoiSat_bounds _, fun h => (by cases h), fun _ z hz => by rw [h] at hz; cases hz⟩, hb⟩
end Go.Proofs.YtobkgkiomapabaaGreatDoor
