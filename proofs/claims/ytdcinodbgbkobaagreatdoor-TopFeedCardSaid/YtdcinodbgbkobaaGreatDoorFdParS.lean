/- Lines read back, plain: what stands between blanks; what a line's row is; what a text's list is. What a line's row is; what a text's list is. What is printed is parsed as it was, and the other way, plain. -/
import Derived.Test.YtdcinodbgbkobaaGreatDoorGg
import Derived.Lib.AtoiAllCases
namespace Go.Proofs.YtdcinodbgbkobaaGreatDoor
/-! FdParP -/
open Go.Shelf Go.RowKit Go.Maps
set_option linter.unusedVariables false

/-! ### between blanks, line by line -/
def NoC (c : UInt8) (s : ByteArray) : Prop := ∀ (j : Nat) b, s.data.toList[j]? = some b → b ≠ c
def partsS (s : ByteArray) : List ByteArray := Lib.splitB ⟨#[32]⟩ 0 (Lib.countB s ⟨#[32]⟩) s
theorem partsS_len (s : ByteArray) : (partsS s).length = Lib.countB s ⟨#[32]⟩ + 1 := Lib.splitB_all ⟨#[32]⟩ (by decide) 0 _ s rfl
theorem partsS_hit {u : ByteArray} {k : Nat} (h : u.data.toList[k]? = some 32) (hn : ∀ j b, j < k → u.data.toList[j]? = some b → b ≠ 32) : partsS u = u.extract 0 k :: partsS (u.extract (k + 1) u.size) := by
  have hi : Lib.indexB u ⟨#[32]⟩ = (k : Int) := idxc_hit 32 u.data.toList k h hn
  unfold partsS
  rw [Lib.countB_hit u ⟨#[32]⟩ k (by decide) hi, Nat.add_comm 1, Lib.splitB_hit ⟨#[32]⟩ 0 _ u k hi]
  rfl
theorem partsS_one {x : ByteArray} (h : NoC 32 x) : partsS x = [x] := Lib.splitB_miss ⟨#[32]⟩ 0 _ x (idxc_miss 32 x.data.toList h)
theorem get_mid (x : ByteArray) (c : UInt8) (r : ByteArray) : (x ++ ⟨#[c]⟩ ++ r).data.toList[x.size]? = some c := by
  have e : (x ++ ⟨#[c]⟩ ++ r).data.toList = x.data.toList ++ (c :: r.data.toList) := by simp [ByteArray.data_append]
  rw [e, List.getElem?_append_right (by rw [show x.data.toList.length = x.size from by simp]; omega)]
  simp
theorem get_head {x : ByteArray} {c : UInt8} {r : ByteArray} {j : Nat} (hj : j < x.size) : (x ++ ⟨#[c]⟩ ++ r).data.toList[j]? = x.data.toList[j]? := by
  have e : (x ++ ⟨#[c]⟩ ++ r).data.toList = x.data.toList ++ (c :: r.data.toList) := by simp [ByteArray.data_append]
  rw [e, List.getElem?_append_left (by simpa using hj)]
theorem ext_head (x : ByteArray) (c : UInt8) (r : ByteArray) : (x ++ ⟨#[c]⟩ ++ r).extract 0 x.size = x := by
  apply ba_eq
  have e : (x ++ ⟨#[c]⟩ ++ r).data.toList = x.data.toList ++ (c :: r.data.toList) := by simp [ByteArray.data_append]
  rw [Lib.extract_from_zero, e, List.take_append_of_le_length (by simp), List.take_of_length_le (by simp)]
theorem ext_rest (x : ByteArray) (c : UInt8) (r : ByteArray) : (x ++ ⟨#[c]⟩ ++ r).extract (x.size + 1) (x ++ ⟨#[c]⟩ ++ r).size = r := by
  apply ba_eq
  have e : (x ++ ⟨#[c]⟩ ++ r).data.toList = x.data.toList ++ (c :: r.data.toList) := by simp [ByteArray.data_append]
  rw [Lib.extract_to_end, e, List.drop_append, List.drop_of_length_le (by simp)]
  simp
theorem partsS_cons {x : ByteArray} (r : ByteArray) (h : NoC 32 x) : partsS (x ++ ⟨#[32]⟩ ++ r) = x :: partsS r := by
  rw [partsS_hit (k := x.size) (get_mid x 32 r) (fun j b hj hb => h j b (by rwa [get_head hj] at hb)), ext_head, ext_rest]
/-- Ahead of, and behind, the first line feed. -/
def headN (s : ByteArray) : ByteArray := ⟨(Lib.cut s.data.toList [10]).1.toArray⟩
def restN (s : ByteArray) : ByteArray := ⟨(Lib.cut s.data.toList [10]).2.1.toArray⟩
def cutsN (s : ByteArray) : Bool := (Lib.cut s.data.toList [10]).2.2
theorem cutN_hit {u : ByteArray} {k : Nat} (h : u.data.toList[k]? = some 10) (hn : ∀ j b, j < k → u.data.toList[j]? = some b → b ≠ 10) : headN u = u.extract 0 k ∧ restN u = u.extract (k + 1) u.size ∧ cutsN u = true :=
  Lib.cutB_hit u ⟨#[10]⟩ k (idxc_hit 10 u.data.toList k h hn)
theorem cutN_miss {u : ByteArray} (h : NoC 10 u) : headN u = u ∧ restN u = ⟨#[]⟩ ∧ cutsN u = false :=
  Lib.cutB_miss u ⟨#[10]⟩ (idxc_miss 10 u.data.toList h)
theorem cutN_line {x : ByteArray} (r : ByteArray) (h : NoC 10 x) : headN (x ++ nlB ++ r) = x ∧ restN (x ++ nlB ++ r) = r ∧ cutsN (x ++ nlB ++ r) = true := by
  obtain ⟨h1, h2, h3⟩ := cutN_hit (u := x ++ nlB ++ r) (k := x.size) (get_mid x 10 r) (fun j b hj hb => h j b (by have : (x ++ nlB ++ r).data.toList[j]? = x.data.toList[j]? := get_head hj; rwa [this] at hb))
  exact ⟨h1.trans (ext_head x 10 r), h2.trans (ext_rest x 10 r), h3⟩
/-- Every text has a first line feed, or none. -/
theorem nl_cases (s : ByteArray) (c : UInt8) : NoC c s ∨ ∃ x r, s = x ++ ⟨#[c]⟩ ++ r ∧ NoC c x := by
  by_cases h : NoC c s
  · exact Or.inl h
  · refine Or.inr ?_
    have hex : ∃ k : Nat, s.data.toList[k]? = some c := by
      unfold NoC at h
      obtain ⟨j, hj⟩ := Classical.not_forall.1 h
      obtain ⟨b, hb⟩ := Classical.not_forall.1 hj
      obtain ⟨hb1, hb2⟩ := Classical.not_imp.1 hb
      exact ⟨j, by rw [hb1, Classical.not_not.1 hb2]⟩
    have hmin : ∃ k : Nat, s.data.toList[k]? = some c ∧ ∀ j, j < k → s.data.toList[j]? ≠ some c := by
      obtain ⟨k, hk⟩ := hex
      induction k using Nat.strongRecOn with
      | _ k ih =>
        by_cases hm : ∃ j, j < k ∧ s.data.toList[j]? = some c
        · obtain ⟨j, hj, hj2⟩ := hm
          exact ih j hj hj2
        · exact ⟨k, hk, fun j hj h2 => hm ⟨j, hj, h2⟩⟩
    obtain ⟨k, hk, hlt⟩ := hmin
    have hkl := (List.getElem?_eq_some_iff.1 hk).1
    refine ⟨⟨(s.data.toList.take k).toArray⟩, ⟨(s.data.toList.drop (k + 1)).toArray⟩, ?_, fun j b hb => ?_⟩
    · apply ba_eq
      simp only [ByteArray.data_append, Array.toList_append]
      rw [List.append_assoc]
      have h2 : s.data.toList = s.data.toList.take k ++ s.data.toList.drop k := (List.take_append_drop k _).symm
      have h3 : s.data.toList.drop k = c :: s.data.toList.drop (k + 1) := by
        rw [List.drop_eq_getElem_cons hkl]
        congr 1
        exact (List.getElem?_eq_some_iff.1 hk).2
      conv => lhs; rw [h2, h3]
      simp
    · intro e
      subst e
      have hj : j < k := by
        have := (List.getElem?_eq_some_iff.1 hb).1
        simp at this
        omega
      refine hlt j hj ?_
      rw [← hb]
      simp [hj]

/-! ### the bytes of a row -/
theorem noC_of {c : UInt8} {s : ByteArray} (h : ∀ b ∈ s.data.toList, b ≠ c) : NoC c s := fun j b hb => h b (List.mem_of_getElem? hb)
theorem nameB_byte {s : ByteArray} (h : nameB s = true) : ∀ b ∈ s.data.toList, okN b.toNat := by
  unfold nameB at h
  rw [Bool.and_eq_true, List.all_eq_true] at h
  intro b hb
  exact of_decide_eq_true (h.2 b hb)
theorem ok_ne {b c : UInt8} (h : okN b.toNat) (hc : ¬ okN c.toNat) : b ≠ c := fun e => hc (e ▸ h)
theorem parts_byte : ∀ (n : Nat) (s : ByteArray), s.size ≤ n → ∀ b ∈ s.data.toList, b = 44 ∨ ∃ p ∈ parts s, b ∈ p.data.toList := by
  intro n
  induction n with
  | zero =>
    intro s hs b hb
    have : s.data.toList.length = s.size := by simp
    have h2 := List.length_pos_of_mem hb
    omega
  | succ n ih =>
    intro s hs b hb
    rcases nl_cases s 44 with h | ⟨x, r, rfl, hx⟩
    · rw [parts_miss h]
      exact Or.inr ⟨s, by simp, hb⟩
    · rw [parts_hit (k := x.size) (get_mid x 44 r) (fun j b hj hb => hx j b (by rwa [get_head hj] at hb)), ext_head, ext_rest]
      have e : (x ++ ⟨#[44]⟩ ++ r).data.toList = x.data.toList ++ (44 :: r.data.toList) := by simp [ByteArray.data_append]
      rw [e, List.mem_append, List.mem_cons] at hb
      rcases hb with hb | hb | hb
      · exact Or.inr ⟨x, by simp, hb⟩
      · exact Or.inl hb
      · rw [ba_size, ba_size] at hs
        have h1 : (⟨#[44]⟩ : ByteArray).size = 1 := rfl
        rcases ih r (by omega) b hb with h2 | ⟨p, hp, hbp⟩
        · exact Or.inl h2
        · exact Or.inr ⟨p, List.mem_cons_of_mem _ hp, hbp⟩
theorem mayR_parts {r : Ro} (h : mayR r = true) : nameB r.name = true ∧ nameB r.maker = true ∧ riseB (tagsOf r.tags) = true := by
  unfold mayR tagsOkB at h
  simp only [Bool.and_eq_true] at h
  exact ⟨h.1, h.2.1, h.2.2.2.2.2⟩
theorem tags_byte {r : Ro} (h : mayR r = true) : ∀ b ∈ r.tags.data.toList, b = 44 ∨ okN b.toNat := by
  intro b hb
  have hr := (mayR_parts h).2.2
  rw [tagsOf_eq] at hr
  by_cases h0 : r.tags = ⟨#[]⟩
  · rw [h0] at hb; simp at hb
  · rw [if_neg h0] at hr
    rcases parts_byte _ r.tags (Nat.le_refl _) b hb with h1 | ⟨p, hp, hbp⟩
    · exact Or.inl h1
    · obtain ⟨j, hj⟩ := List.mem_iff_getElem?.1 hp
      have := ((rise_of _).1 hr j p hj).1
      exact Or.inr (nameB_byte this b hbp)
theorem dig_byte (n : Nat) : ∀ b ∈ Lib.decDigits n, 48 ≤ b.toNat ∧ b.toNat ≤ 57 := by
  induction n using Nat.strongRecOn with
  | _ n ih =>
    intro b hb
    rw [Lib.decDigits] at hb
    split at hb
    · rw [List.mem_singleton] at hb
      subst hb
      rw [UInt8.toNat_ofNat_of_lt' (by show _ < 256; omega)]
      omega
    · rw [List.mem_append, List.mem_singleton] at hb
      rcases hb with hb | hb
      · exact ih (n / 10) (by omega) b hb
      · subst hb
        rw [UInt8.toNat_ofNat_of_lt' (by show _ < 256; omega)]
        omega

theorem tagsT_byte {r : Ro} (h : mayR r = true) : ∀ b ∈ (tagsT r.tags).data.toList, b = 44 ∨ b = 46 ∨ okN b.toNat := by
  intro b hb
  unfold tagsT at hb
  split at hb
  · simp at hb
    exact Or.inr (Or.inl hb)
  · rcases tags_byte h b hb with h1 | h1
    · exact Or.inl h1
    · exact Or.inr (Or.inr h1)
/-- The words of a row have neither blank nor line feed. -/
theorem word_noC {r : Ro} (h : mayR r = true) {c : UInt8} (hc : c = 32 ∨ c = 10) : ∀ x ∈ lineW r, NoC c x := by
  have hk : ¬ okN c.toNat := by rcases hc with rfl | rfl <;> decide
  have h44 : (44 : UInt8) ≠ c := by rcases hc with rfl | rfl <;> decide
  have h46 : (46 : UInt8) ≠ c := by rcases hc with rfl | rfl <;> decide
  have hnum := mayR_num h
  have hd : ∀ n : Int, 0 ≤ n → NoC c (itoaB n) := fun n hn => by
    obtain ⟨m, rfl⟩ : ∃ m : Nat, n = (m : Int) := ⟨n.toNat, by omega⟩
    refine noC_of (fun b hb => ok_ne ?_ hk)
    rw [itoa_dig, dig_data] at hb
    have := dig_byte m b hb
    unfold okN
    omega
  intro x hx
  unfold lineW at hx
  simp only [List.mem_cons, List.not_mem_nil, or_false] at hx
  rcases hx with rfl | rfl | rfl | rfl | rfl
  · exact noC_of (fun b hb => ok_ne (nameB_byte (mayR_parts h).1 b hb) hk)
  · exact noC_of (fun b hb => ok_ne (nameB_byte (mayR_parts h).2.1 b hb) hk)
  · refine noC_of (fun b hb => ?_)
    rcases tagsT_byte h b hb with rfl | rfl | h1
    · exact h44
    · exact h46
    · exact ok_ne h1 hk
  · exact hd _ hnum.1.1
  · exact hd _ hnum.2.1
theorem parts_line {r : Ro} (h : mayR r = true) : partsS (lineB r) = lineW r := by
  have hw := word_noC h (c := 32) (Or.inl rfl)
  unfold lineW at hw ⊢
  have e : lineB r = r.name ++ ⟨#[32]⟩ ++ (r.maker ++ ⟨#[32]⟩ ++ (tagsT r.tags ++ ⟨#[32]⟩ ++ (itoaB r.price ++ ⟨#[32]⟩ ++ itoaB r.stock))) := by
    rw [line_eq]
    unfold spB
    apply ba_eq
    simp [ByteArray.data_append]
  rw [e, partsS_cons _ (hw _ (by simp)), partsS_cons _ (hw _ (by simp)), partsS_cons _ (hw _ (by simp)), partsS_cons _ (hw _ (by simp)), partsS_one (hw _ (by simp))]
theorem noC_append {c : UInt8} {a b : ByteArray} (ha : NoC c a) (hb : NoC c b) : NoC c (a ++ b) := by
  have q : ∀ {x : ByteArray}, NoC c x → ∀ y ∈ x.data.toList, y ≠ c := fun hx y hy => by
    obtain ⟨j, hj⟩ := List.mem_iff_getElem?.1 hy
    exact hx j y hj
  refine noC_of (fun y hy => ?_)
  rw [ByteArray.data_append, Array.toList_append, List.mem_append] at hy
  rcases hy with hy | hy
  · exact q ha y hy
  · exact q hb y hy
theorem line_noN {r : Ro} (h : mayR r = true) : NoC 10 (lineB r) := by
  have hw := word_noC h (c := 10) (Or.inr rfl)
  unfold lineW at hw
  have hs : NoC 10 spB := noC_of (fun b hb => by simp [spB] at hb; subst hb; decide)
  rw [line_eq]
  exact noC_append (noC_append (noC_append (noC_append (noC_append (noC_append (noC_append (noC_append (hw _ (by simp)) hs) (hw _ (by simp))) hs) (hw _ (by simp))) hs) (hw _ (by simp))) hs) (hw _ (by simp))
theorem dig_inj {m n : Nat} (h : Lib.decDigits m = Lib.decDigits n) (hm : m ≤ 1048576) (hn : n ≤ 1048576) (hv : ∀ k : Nat, k ≤ 1048576 → Lib.atoiAll (Lib.decDigits k) = .ok k) : m = n := by
  have h1 := hv m hm
  rw [h, hv n hn] at h1
  injection h1 with h2
  omega

/-! ### numbers back -/
theorem digV {k : Nat} (h : k < 10) : Lib.digitVal (UInt8.ofNat (48 + k)) = some k := by
  unfold Lib.digitVal
  rw [UInt8.toNat_ofNat_of_lt' (by show _ < 256; omega), if_pos (by omega)]
  congr 1
  omega
theorem decFrom_snoc (b : UInt8) (d : Nat) (hb : Lib.digitVal b = some d) : ∀ (l : List UInt8) (acc n : Nat), Lib.decFrom acc l = some n → Lib.decFrom acc (l ++ [b]) = some (n * 10 + d)
  | [], acc, n, h => by
    simp only [Lib.decFrom, Option.some.injEq] at h
    subst h
    simp [Lib.decFrom, hb]
  | c :: l, acc, n, h => by
    simp only [Lib.decFrom] at h
    simp only [List.cons_append, Lib.decFrom]
    split at h
    · rename_i d' hd
      exact decFrom_snoc b d hb l _ _ h
    · cases h
theorem dec_dig (n : Nat) : Lib.decFrom 0 (Lib.decDigits n) = some n := by
  induction n using Nat.strongRecOn with
  | _ n ih =>
    rw [Lib.decDigits]
    split
    · rename_i h
      have := decFrom_snoc _ n (digV h) [] 0 0 rfl
      simpa using this
    · rw [decFrom_snoc _ (n % 10) (digV (by omega)) _ _ _ (ih (n / 10) (by omega))]
      congr 1
      omega
theorem dig_len {n : Nat} (h : n ≤ 1048576) : (Lib.decDigits n).length ≤ 7 := by
  rw [Lib.decDigits_length]
  rcases Nat.lt_or_ge n 10 with h1 | h1
  · rw [Lib.nDigits_small h1]; omega
  · have q : ∀ k, 10 ^ k ≤ n → n < 10 ^ (k + 1) → k ≤ 6 → Lib.nDigits n ≤ 7 := fun k a b c => by rw [Lib.nDigits_unique k n a b]; omega
    by_cases h2 : n < 100
    · exact q 1 (by omega) (by omega) (by omega)
    by_cases h3 : n < 1000
    · exact q 2 (by omega) (by omega) (by omega)
    by_cases h4 : n < 10000
    · exact q 3 (by omega) (by omega) (by omega)
    by_cases h5 : n < 100000
    · exact q 4 (by omega) (by omega) (by omega)
    by_cases h6 : n < 1000000
    · exact q 5 (by omega) (by omega) (by omega)
    · exact q 6 (by omega) (by omega) (by omega)
theorem dig_ne (n : Nat) : Lib.decDigits n ≠ [] := by
  intro h
  have h1 : (Lib.decDigits n).length = 0 := by rw [h]; rfl
  have := Lib.nDigits_pos n
  rw [Lib.decDigits_length] at h1
  omega
theorem atoi_dig {n : Nat} (h : n ≤ 1048576) : Lib.atoiAll (Lib.decDigits n) = .ok (n : Int) := by
  have hl := dig_len h
  cases hd : Lib.decDigits n with
  | nil => exact absurd hd (dig_ne n)
  | cons c r =>
    have hc := dig_byte n c (by rw [hd]; simp)
    rw [Lib.atoiAll_plain c r (by omega) (by omega)]
    have hm : Lib.parseMag (c :: r) = .ok n := by
      rw [Lib.parseMag_short _ (by rw [← hd]; omega)]
      have : Lib.decNat (c :: r) = some n := by
        unfold Lib.decNat
        rw [← hd, if_neg (by simp [dig_ne n]), dec_dig]
      rw [this]
      rfl
    rw [hm]
    unfold Lib.signless
    simp only
    rw [if_neg (by omega)]

/-! FdParS -/
open Go.Shelf Go.RowKit Go.Maps
set_option linter.unusedVariables false

def tagsU (t : ByteArray) : ByteArray := if t = ⟨#[46]⟩ then ⟨#[]⟩ else t
theorem dot_ne : (⟨#[46]⟩ : ByteArray) ≠ ⟨#[]⟩ := by
  intro h
  have : (⟨#[46]⟩ : ByteArray).size = (⟨#[]⟩ : ByteArray).size := by rw [h]
  cases this
theorem tagsU_T {r : Ro} (h : mayR r = true) : tagsU (tagsT r.tags) = r.tags := by
  unfold tagsT
  by_cases h0 : r.tags = ⟨#[]⟩
  · rw [if_pos h0, h0]; rfl
  · rw [if_neg h0]
    unfold tagsU
    rw [if_neg]
    intro e
    rcases tags_byte h 46 (by rw [e]; simp) with h1 | h1
    · cases h1
    · exact absurd h1 (by decide)
theorem tagsT_U {t : ByteArray} (h : t ≠ ⟨#[]⟩) : tagsT (tagsU t) = t := by
  unfold tagsU
  by_cases h0 : t = ⟨#[46]⟩
  · rw [if_pos h0, h0]; rfl
  · rw [if_neg h0]
    unfold tagsT
    rw [if_neg h]
/-- A row's line. -/
def rowOk (t : ByteArray) (r : Ro) : Prop := mayR r = true ∧ lineB r = t
theorem mayR_atoi {r : Ro} (h : mayR r = true) : Lib.atoiAll (itoaB r.price).data.toList = .ok r.price ∧ Lib.atoiAll (itoaB r.stock).data.toList = .ok r.stock := by
  have hn := mayR_num h
  have q : ∀ z : Int, 0 ≤ z → z ≤ 1048576 → Lib.atoiAll (itoaB z).data.toList = .ok z := fun z h0 h1 => by
    obtain ⟨m, rfl⟩ : ∃ m : Nat, z = (m : Int) := ⟨z.toNat, by omega⟩
    rw [itoa_dig, dig_data]
    exact atoi_dig (by omega)
  exact ⟨q _ hn.1.1 hn.1.2, q _ hn.2.1 hn.2.2⟩
theorem row_uniq {t : ByteArray} {r r' : Ro} (h : rowOk t r) (h' : rowOk t r') : r = r' := by
  have e : lineW r = lineW r' := by rw [← parts_line h.1, ← parts_line h'.1, h.2, h'.2]
  unfold lineW at e
  simp only [List.cons.injEq, and_true] at e
  obtain ⟨e1, e2, e3, e4, e5⟩ := e
  have a1 := mayR_atoi h.1
  have a2 := mayR_atoi h'.1
  have t1 := tagsU_T h.1
  rw [e3, tagsU_T h'.1] at t1
  rw [e4, e5] at a1
  have p1 : r'.price = r.price := by
    have := a1.1.symm.trans a2.1
    injection this with this
    exact this.symm
  have p2 : r'.stock = r.stock := by
    have := a1.2.symm.trans a2.2
    injection this with this
    exact this.symm
  obtain ⟨n, m, g, p, s⟩ := r
  obtain ⟨n', m', g', p', s'⟩ := r'
  simp only at e1 e2 t1 p1 p2
  subst e1 e2 t1 p1 p2
  rfl
open Classical in
noncomputable def rowP (t : ByteArray) : Option Ro := if h : ∃ r, rowOk t r then some h.choose else none
theorem rowP_some {t : ByteArray} {r : Ro} (h : rowOk t r) : rowP t = some r := by
  have hx : ∃ r, rowOk t r := ⟨r, h⟩
  unfold rowP
  rw [dif_pos hx]
  exact congrArg some (row_uniq hx.choose_spec h)
theorem rowP_none {t : ByteArray} (h : ∀ r, ¬ rowOk t r) : rowP t = none := by
  unfold rowP
  rw [dif_neg (fun ⟨r, hr⟩ => h r hr)]
theorem rowP_ok {t : ByteArray} {r : Ro} (h : rowP t = some r) : rowOk t r := by
  unfold rowP at h
  split at h
  · rename_i hx
    cases h
    exact hx.choose_spec
  · cases h
/-- What a line has that is a row's. -/
theorem row_words {t : ByteArray} {r : Ro} (h : rowOk t r) : partsS t = [r.name, r.maker, tagsT r.tags, itoaB r.price, itoaB r.stock] := by
  rw [← h.2]; exact parts_line h.1
def joinS : List ByteArray → ByteArray
  | [] => ⟨#[]⟩
  | [x] => x
  | x :: y :: l => x ++ spB ++ joinS (y :: l)
theorem partsS_join : ∀ (n : Nat) (s : ByteArray), s.size ≤ n → joinS (partsS s) = s := by
  intro n
  induction n with
  | zero =>
    intro s hs
    rcases nl_cases s 32 with h | ⟨x, r, rfl, hx⟩
    · rw [partsS_one h]; rfl
    · rw [ba_size, ba_size] at hs
      have h1 : (⟨#[32]⟩ : ByteArray).size = 1 := rfl
      omega
  | succ n ih =>
    intro s hs
    rcases nl_cases s 32 with h | ⟨x, r, rfl, hx⟩
    · rw [partsS_one h]; rfl
    · rw [partsS_cons r hx]
      rw [ba_size, ba_size] at hs
      have h1 : (⟨#[32]⟩ : ByteArray).size = 1 := rfl
      have h2 := ih r (by omega)
      cases hp : partsS r with
      | nil =>
        have := partsS_len r
        rw [hp] at this
        cases this
      | cons y l =>
        show x ++ spB ++ joinS (y :: l) = _
        rw [← hp, h2]
        rfl
/-- The document's number: of a word. -/
def NumIs (w : ByteArray) (i : Int) : Prop := (i = -1 ∧ ∀ n : Nat, n ≤ 1048576 → w ≠ digB n) ∨ ∃ n : Nat, i = n ∧ w = digB n
theorem row_doc {t a b g p q : ByteArray} {i j : Int} (hp : partsS t = [a, b, g, p, q]) (hg : g ≠ ⟨#[]⟩) (hi : NumIs p i) (hj : NumIs q j) (hm : mayR ⟨a, b, tagsU g, i, j⟩ = true) : rowOk t ⟨a, b, tagsU g, i, j⟩ := by
  refine ⟨hm, ?_⟩
  have hn := mayR_num hm
  simp only at hn
  have q1 : ∀ {w : ByteArray} {i : Int}, NumIs w i → 0 ≤ i → itoaB i = w := fun h h0 => by
    rcases h with ⟨rfl, _⟩ | ⟨n, rfl, rfl⟩
    · omega
    · exact itoa_dig n
  have hj2 := partsS_join _ t (Nat.le_refl _)
  rw [hp] at hj2
  rw [← hj2, line_eq]
  simp only
  rw [tagsT_U hg, q1 hi hn.1.1, q1 hj hn.2.1]
  show _ = a ++ spB ++ (b ++ spB ++ (g ++ spB ++ (p ++ spB ++ q)))
  apply ba_eq
  simp [ByteArray.data_append]
theorem row_doc_no {t a b g p q : ByteArray} {i j : Int} (hp : partsS t = [a, b, g, p, q]) (hi : NumIs p i) (hj : NumIs q j) (hm : mayR ⟨a, b, tagsU g, i, j⟩ = false) : rowP t = none := by
  refine rowP_none (fun r hr => ?_)
  have hw := row_words hr
  rw [hp] at hw
  simp only [List.cons.injEq, and_true] at hw
  obtain ⟨rfl, rfl, rfl, e4, e5⟩ := hw
  have hn := mayR_num hr.1
  have q1 : ∀ {w : ByteArray} {i z : Int}, NumIs w i → w = itoaB z → 0 ≤ z → z ≤ 1048576 → i = z := fun {w i z} h e h0 h1 => by
    obtain ⟨m, rfl⟩ : ∃ m : Nat, z = (m : Int) := ⟨z.toNat, by omega⟩
    rw [itoa_dig] at e
    rcases h with ⟨_, h2⟩ | ⟨n, rfl, h2⟩
    · exact absurd e (h2 m (by omega))
    · have e2 : Lib.decDigits n = Lib.decDigits m := by rw [← dig_data, ← dig_data, ← h2, e]
      have e3 := dec_dig n
      rw [e2, dec_dig m] at e3
      cases e3
      rfl
  obtain rfl := q1 hi e4 hn.1.1 hn.1.2
  obtain rfl := q1 hj e5 hn.2.1 hn.2.2
  rw [tagsU_T hr.1] at hm
  have h3 := hr.1
  obtain ⟨n, m, g, p, s⟩ := r
  simp only at hm
  rw [hm] at h3
  cases h3

/-! ### lists -/
open Classical in
noncomputable def parseF : Nat → ByteArray → List Ro → List Ro × Nat × Int
  | 0, _, l => (l, l.length, 0)
  | f + 1, s, l =>
    if s = ⟨#[]⟩ then (l, l.length, 0)
    else if cutsN s = false then ([], l.length, 3)
    else match rowP (headN s) with
      | none => ([], l.length, 2)
      | some r => if (findR l r.name).isSome then ([], l.length, 7) else if 4096 ≤ l.length then ([], l.length, 5) else parseF f (restN s) (l ++ [r])
theorem rest_less {s : ByteArray} (h : cutsN s = true) : (restN s).size + 1 ≤ s.size ∧ (headN s).size ≤ s.size := by
  rcases nl_cases s 10 with h1 | ⟨x, r, rfl, hx⟩
  · rw [(cutN_miss h1).2.2] at h; cases h
  · obtain ⟨h2, h3, _⟩ := cutN_line r hx
    rw [show x ++ ⟨#[10]⟩ ++ r = x ++ nlB ++ r from rfl, h2, h3, ba_size, ba_size]
    have : nlB.size = 1 := rfl
    omega
/-- Where a parse stands. -/
def ParseTo (s0 s : ByteArray) (l : List Ro) : Prop := l.length ≤ 4096 ∧ l.length + s.size ≤ s0.size ∧ ∃ f, s.size < f ∧ parseF (s0.size + 1) s0 [] = parseF f s l
noncomputable def parseP (s : ByteArray) : List Ro × Nat × Int := parseF (s.size + 1) s []
theorem ParseTo.start (s : ByteArray) : ParseTo s s [] := ⟨by simp, by simp, s.size + 1, Nat.lt_succ_self _, rfl⟩
theorem ParseTo.done {s0 : ByteArray} {l : List Ro} (h : ParseTo s0 ⟨#[]⟩ l) : parseP s0 = (l, l.length, 0) := by
  obtain ⟨_, _, f, hf, he⟩ := h
  obtain ⟨f, rfl⟩ : ∃ g, f = g + 1 := ⟨f - 1, by omega⟩
  unfold parseP
  rw [he, parseF, if_pos rfl]
theorem ParseTo.torn {s0 s : ByteArray} {l : List Ro} (h : ParseTo s0 s l) (h0 : s ≠ ⟨#[]⟩) (hc : cutsN s = false) : parseP s0 = ([], l.length, 3) := by
  obtain ⟨_, _, f, hf, he⟩ := h
  obtain ⟨f, rfl⟩ : ∃ g, f = g + 1 := ⟨f - 1, by omega⟩
  unfold parseP
  rw [he, parseF, if_neg h0, if_pos hc]
theorem ParseTo.form {s0 s : ByteArray} {l : List Ro} (h : ParseTo s0 s l) (h0 : s ≠ ⟨#[]⟩) (hc : cutsN s = true) (hr : rowP (headN s) = none) : parseP s0 = ([], l.length, 2) := by
  obtain ⟨_, _, f, hf, he⟩ := h
  obtain ⟨f, rfl⟩ : ∃ g, f = g + 1 := ⟨f - 1, by omega⟩
  unfold parseP
  rw [he, parseF, if_neg h0, if_neg (by rw [hc]; decide), hr]
theorem ParseTo.twice {s0 s : ByteArray} {l : List Ro} {r : Ro} (h : ParseTo s0 s l) (h0 : s ≠ ⟨#[]⟩) (hc : cutsN s = true) (hr : rowP (headN s) = some r) (hf : (findR l r.name).isSome = true) : parseP s0 = ([], l.length, 7) := by
  obtain ⟨_, _, f, hf', he⟩ := h
  obtain ⟨f, rfl⟩ : ∃ g, f = g + 1 := ⟨f - 1, by omega⟩
  unfold parseP
  rw [he, parseF, if_neg h0, if_neg (by rw [hc]; decide), hr]
  simp only
  rw [if_pos hf]
theorem ParseTo.full {s0 s : ByteArray} {l : List Ro} {r : Ro} (h : ParseTo s0 s l) (h0 : s ≠ ⟨#[]⟩) (hc : cutsN s = true) (hr : rowP (headN s) = some r) (hf : findR l r.name = none) (hl : 4096 ≤ l.length) : parseP s0 = ([], l.length, 5) := by
  obtain ⟨_, _, f, hf', he⟩ := h
  obtain ⟨f, rfl⟩ : ∃ g, f = g + 1 := ⟨f - 1, by omega⟩
  unfold parseP
  rw [he, parseF, if_neg h0, if_neg (by rw [hc]; decide), hr]
  simp only
  rw [if_neg (by rw [hf]; simp), if_pos hl]
theorem ParseTo.next {s0 s : ByteArray} {l : List Ro} {r : Ro} (h : ParseTo s0 s l) (h0 : s ≠ ⟨#[]⟩) (hc : cutsN s = true) (hr : rowP (headN s) = some r) (hf : findR l r.name = none) (hl : ¬ 4096 ≤ l.length) : ParseTo s0 (restN s) (l ++ [r]) := by
  obtain ⟨h1, h2, f, hf', he⟩ := h
  obtain ⟨f, rfl⟩ : ∃ g, f = g + 1 := ⟨f - 1, by omega⟩
  have hz := (rest_less hc).1
  refine ⟨by rw [List.length_append]; simp; omega, by rw [List.length_append]; simp; omega, f, by omega, ?_⟩
  rw [he, parseF, if_neg h0, if_neg (by rw [hc]; decide), hr]
  simp only
  rw [if_neg (by rw [hf]; simp), if_neg hl]

/-! FdBackP -/
open Go.Shelf Go.RowKit Go.Maps
set_option linter.unusedVariables false

theorem line_ne (r : Ro) (t : ByteArray) : lineB r ++ nlB ++ t ≠ ⟨#[]⟩ := by
  intro h
  have h1 : (lineB r ++ nlB ++ t).size = (⟨#[]⟩ : ByteArray).size := by rw [h]
  rw [ba_size, ba_size] at h1
  have h2 : nlB.size = 1 := rfl
  have h3 : (⟨#[]⟩ : ByteArray).size = 0 := rfl
  omega
theorem find_fresh {l1 l2 : List Ro} {r : Ro} (h : ((l1 ++ r :: l2).map (·.name)).Nodup) : findR l1 r.name = none := by
  unfold findR
  rw [List.find?_eq_none]
  intro x hx
  rw [List.map_append, List.map_cons, List.nodup_append] at h
  have := h.2.2 x.name (List.mem_map.2 ⟨x, hx, rfl⟩) r.name (by simp)
  simp [this]
theorem parse_go (l : List Ro) (hl : okL l = true) : ∀ (l2 l1 : List Ro), l = l1 ++ l2 → ParseTo (linesB l) (linesB l2) l1 → parseP (linesB l) = (l, l.length, 0)
  | [], l1, e, h => by
    rw [List.append_nil] at e
    subst e
    exact h.done
  | r :: l2, l1, e, h => by
    obtain ⟨hmy, hnd, hlen⟩ := (okL_iff l).1 hl
    have hr : mayR r = true := hmy r (by rw [e]; simp)
    obtain ⟨h1, h2, h3⟩ := cutN_line (linesB l2) (line_noN hr)
    have e2 : linesB (r :: l2) = lineB r ++ nlB ++ linesB l2 := rfl
    have hn := h.next (r := r) (by rw [e2]; exact line_ne _ _) (by rw [e2]; exact h3) (by rw [e2, h1]; exact rowP_some ⟨hr, rfl⟩) (find_fresh (l2 := l2) (by rw [← e]; exact hnd)) (by have := congrArg List.length e; rw [List.length_append, List.length_cons] at this; omega)
    rw [e2, h2] at hn
    exact parse_go l hl l2 (l1 ++ [r]) (by rw [e]; simp) hn
theorem parse_back {l : List Ro} (hl : okL l = true) : parseP (linesB l) = (l, l.length, 0) := parse_go l hl l [] rfl (ParseTo.start _)
theorem parse_empty : parseP ⟨#[]⟩ = ([], 0, 0) := (ParseTo.start _).done
theorem parse_print (l : List Ro) : parseP (printB l) = if okL l = true then (l, l.length, 0) else ([], 0, 0) := by
  unfold printB
  by_cases h : okL l = true
  · rw [if_pos h, if_pos h]; exact parse_back h
  · rw [if_neg h, if_neg h]; exact parse_empty
theorem okL_snoc {l : List Ro} {r : Ro} (hl : okL l = true) (hr : mayR r = true) (hf : findR l r.name = none) (hn : ¬ 4096 ≤ l.length) : okL (l ++ [r]) = true := by
  obtain ⟨h1, h2, h3⟩ := (okL_iff l).1 hl
  refine (okL_iff _).2 ⟨fun x hx => ?_, ?_, by rw [List.length_append]; simp; omega⟩
  · rcases List.mem_append.1 hx with h | h
    · exact h1 x h
    · rw [List.mem_singleton] at h; subst h; exact hr
  · rw [List.map_append, List.nodup_append]
    refine ⟨h2, by simp, fun a ha b hb => ?_⟩
    rw [List.map_cons, List.map_nil, List.mem_singleton] at hb
    subst hb
    intro e
    subst e
    have := findR_isSome.2 ha
    rw [hf] at this
    cases this
theorem cut_back {s : ByteArray} (h : cutsN s = true) : s = headN s ++ nlB ++ restN s := by
  rcases nl_cases s 10 with h1 | ⟨x, r, rfl, hx⟩
  · rw [(cutN_miss h1).2.2] at h; cases h
  · obtain ⟨h2, h3, _⟩ := cutN_line r hx
    rw [show x ++ ⟨#[10]⟩ ++ r = x ++ nlB ++ r from rfl, h2, h3]
theorem parse_fwd : ∀ (f : Nat) (s : ByteArray) (l1 k : List Ro) (n : Nat), s.size < f → okL l1 = true → parseF f s l1 = (k, n, 0) → ∃ l2, k = l1 ++ l2 ∧ linesB l2 = s ∧ okL k = true
  | 0, s, l1, k, n, hf, _, _ => by omega
  | f + 1, s, l1, k, n, hf, hl, h => by
    rw [parseF] at h
    by_cases h0 : s = ⟨#[]⟩
    · rw [if_pos h0] at h
      simp only [Prod.mk.injEq] at h
      obtain ⟨rfl, _, _⟩ := h
      exact ⟨[], by simp, h0.symm, hl⟩
    · rw [if_neg h0] at h
      by_cases hc : cutsN s = false
      · rw [if_pos hc] at h
        simp at h
      · rw [if_neg hc] at h
        have hct : cutsN s = true := by simpa using hc
        cases hr : rowP (headN s) with
        | none => rw [hr] at h; simp at h
        | some r =>
          rw [hr] at h
          simp only at h
          by_cases hs : (findR l1 r.name).isSome = true
          · rw [if_pos hs] at h; simp at h
          · rw [if_neg hs] at h
            have hfn : findR l1 r.name = none := by simpa using hs
            by_cases hn : 4096 ≤ l1.length
            · rw [if_pos hn] at h; simp at h
            · rw [if_neg hn] at h
              obtain ⟨hm, hlb⟩ := rowP_ok hr
              have hz := (rest_less hct).1
              obtain ⟨l2, e1, e2, e3⟩ := parse_fwd f (restN s) (l1 ++ [r]) k n (by omega) (okL_snoc hl hm hfn hn) h
              refine ⟨r :: l2, by rw [e1]; simp, ?_, e3⟩
              show lineB r ++ nlB ++ linesB l2 = s
              rw [hlb, e2, ← cut_back hct]
theorem parse_err : ∀ (f : Nat) (s : ByteArray) (l1 k : List Ro) (n : Nat) (e : Int), s.size < f → parseF f s l1 = (k, n, e) → e ≠ 0 → k = []
  | 0, s, l1, k, n, e, hf, _, _ => by omega
  | f + 1, s, l1, k, n, e, hf, h, he => by
    rw [parseF] at h
    by_cases h0 : s = ⟨#[]⟩
    · rw [if_pos h0] at h
      simp only [Prod.mk.injEq] at h
      exact absurd h.2.2.symm he
    · rw [if_neg h0] at h
      by_cases hc : cutsN s = false
      · rw [if_pos hc] at h
        simp only [Prod.mk.injEq] at h
        exact h.1.symm
      · rw [if_neg hc] at h
        have hct : cutsN s = true := by simpa using hc
        cases hr : rowP (headN s) with
        | none => rw [hr] at h; simp only [Prod.mk.injEq] at h; exact h.1.symm
        | some r =>
          rw [hr] at h
          simp only at h
          by_cases hs : (findR l1 r.name).isSome = true
          · rw [if_pos hs] at h; simp only [Prod.mk.injEq] at h; exact h.1.symm
          · rw [if_neg hs] at h
            by_cases hn : 4096 ≤ l1.length
            · rw [if_pos hn] at h; simp only [Prod.mk.injEq] at h; exact h.1.symm
            · rw [if_neg hn] at h
              have hz := (rest_less hct).1
              exact parse_err f (restN s) _ k n e (by omega) h he
theorem parseP_print {s : ByteArray} {k : List Ro} {n : Nat} (h : parseP s = (k, n, 0)) : printB k = s := by
  obtain ⟨l2, e1, e2, e3⟩ := parse_fwd _ s [] k n (Nat.lt_succ_self _) rfl h
  rw [List.nil_append] at e1
  subst e1
  unfold printB
  rw [if_pos e3]
  exact e2
theorem parseP_err {s : ByteArray} {k : List Ro} {n : Nat} {e : Int} (h : parseP s = (k, n, e)) (he : e ≠ 0) : k = [] := parse_err _ s [] k n e (Nat.lt_succ_self _) h he
theorem lines_long (l : List Ro) : 5 * l.length ≤ (linesB l).size := by
  induction l with
  | nil => show 0 ≤ _; omega
  | cons r l ih =>
    show _ ≤ (lineB r ++ nlB ++ linesB l).size
    rw [ba_size, ba_size, line_eq]
    simp only [ba_size]
    have h1 : spB.size = 1 := rfl
    have h2 : nlB.size = 1 := rfl
    rw [List.length_cons]
    omega
theorem parseP_few {s : ByteArray} {k : List Ro} {n : Nat} {e : Int} (h : parseP s = (k, n, e)) (hs : s.size ≤ 3000) : k.length ≤ 600 := by
  by_cases he : e = 0
  · subst he
    have h1 := parseP_print h
    have h2 := lines_long k
    by_cases hk : okL k = true
    · unfold printB at h1
      rw [if_pos hk] at h1
      rw [h1] at h2
      omega
    · obtain ⟨_, _, _, e3⟩ := parse_fwd _ s [] k n (Nat.lt_succ_self _) rfl h
      exact absurd e3 hk
  · rw [parseP_err h he]
    exact Nat.zero_le _

end Go.Proofs.YtdcinodbgbkobaaGreatDoor
