/- The tokens of texts that are put together; those of a rule's own text: plain. -/
import Derived.Test.YtpgbgeofhcpocaaGreatDoorRuR
namespace Go.Proofs.YtpgbgeofhcpocaaGreatDoor
set_option linter.unusedVariables false

def fl (acc : List UInt8) : List ByteArray := if acc = [] then [] else [⟨acc.toArray⟩]
def sg (b : UInt8) : List ByteArray := if b = 32 then [] else [⟨#[b]⟩]
def tkA : List UInt8 → List UInt8 → List ByteArray
  | acc, [] => fl acc
  | acc, b :: l => if isD b = true then fl acc ++ (sg b ++ tkA [] l) else tkA (acc ++ [b]) l
def tkS (s : ByteArray) : List ByteArray := tkA [] s.data.toList
theorem ext_list (s : ByteArray) (i j : Nat) : (s.extract i j).data.toList = (s.data.toList.drop i).take (j - i) := by
  simp [List.extract_eq_take_drop]
theorem ext_fl {s : ByteArray} {i fr : Nat} (h1 : fr ≤ i) (h2 : i ≤ s.size) : tx (wordT s i fr) = fl ((s.data.toList.drop fr).take (i - fr)) := by
  have hl : s.data.toList.length = s.size := by simp
  unfold wordT fl
  by_cases h : fr < i
  · rw [if_pos h, if_neg (by
      intro e
      have := congrArg List.length e
      rw [List.length_take, List.length_drop, hl] at this
      simp at this
      omega)]
    show [s.extract fr i] = _
    congr 1
    refine ba_ext ?_
    rw [ext_list]
  · rw [if_neg h, if_pos (by rw [show i - fr = 0 by omega]; rfl)]
    rfl
theorem tokF_tk (s : ByteArray) : ∀ (f i fr : Nat), f = s.size - i → fr ≤ i → i ≤ s.size → tx (tokF s f i fr) = tkA ((s.data.toList.drop fr).take (i - fr)) (s.data.toList.drop i)
  | 0, i, fr, hf, h1, h2 => by
    have hl : s.data.toList.length = s.size := by simp
    have h0 : s.data.toList.drop i = [] := List.drop_eq_nil_of_le (by omega)
    rw [tokF, ext_fl h1 h2, h0, tkA]
  | f + 1, i, fr, hf, h1, h2 => by
    have hl : s.data.toList.length = s.size := by simp
    have hi : i < s.data.toList.length := by omega
    have hd : s.data.toList.drop i = byteAt s i :: s.data.toList.drop (i + 1) := by
      rw [List.drop_eq_getElem_cons hi]
      unfold byteAt
      rw [List.getD_eq_getElem?_getD, List.getElem?_eq_getElem hi]
      rfl
    rw [tokF, hd, tkA]
    by_cases hb : isD (byteAt s i) = true
    · rw [if_pos hb, if_pos hb]
      have ih := tokF_tk s f (i + 1) (i + 1) (by omega) (Nat.le_refl _) (by omega)
      rw [Nat.sub_self, List.take_zero] at ih
      rw [← ih, ← ext_fl h1 h2]
      have h3 : tx (signT s i) = sg (byteAt s i) := by
        unfold signT sg
        by_cases h32 : byteAt s i = 32
        · rw [if_pos h32, if_pos h32]; rfl
        · rw [if_neg h32, if_neg h32]
          show [s.extract i (i + 1)] = _
          congr 1
          refine ba_ext ?_
          rw [ext_list, hd, show i + 1 - i = 1 by omega]
          rfl
      rw [← h3]
      simp [tx]
    · rw [if_neg hb, if_neg hb, tokF_tk s f (i + 1) fr (by omega) (by omega) (by omega)]
      congr 1
      rw [show i + 1 - fr = (i - fr) + 1 by omega, List.take_add_one]
      congr 1
      rw [List.getElem?_drop, show fr + (i - fr) = i by omega, List.getElem?_eq_getElem hi]
      unfold byteAt
      rw [List.getD_eq_getElem?_getD, List.getElem?_eq_getElem hi]
      rfl
theorem toks_tk (s : ByteArray) : tx (toks s) = tkS s := by
  unfold toks tokR tkS
  rw [tokF_tk s _ 0 0 rfl (Nat.le_refl _) (Nat.zero_le _)]
  rfl
theorem toks_nil {s : ByteArray} : toks s = [] ↔ tkS s = [] := by
  rw [← toks_tk]
  unfold tx
  rw [List.map_eq_nil_iff]
theorem tkA_app (d : UInt8) (hd : isD d = true) (r : List UInt8) : ∀ (l acc : List UInt8), tkA acc (l ++ d :: r) = tkA acc l ++ (sg d ++ tkA [] r)
  | [], acc => by
    rw [List.nil_append, tkA, tkA, if_pos hd]
  | b :: l, acc => by
    rw [List.cons_append, tkA, tkA]
    split
    · rw [tkA_app d hd r l []]; simp
    · exact tkA_app d hd r l _
theorem tkA_free : ∀ (l acc : List UInt8), (∀ b ∈ l, isD b = false) → tkA acc l = fl (acc ++ l)
  | [], acc, _ => by rw [tkA, List.append_nil]
  | b :: l, acc, h => by
    rw [tkA, if_neg (by rw [h b (by simp)]; decide), tkA_free l _ (fun x hx => h x (by simp [hx]))]
    simp
theorem tkA_sg {d : UInt8} (hd : isD d = true) (r : List UInt8) : tkA [] (d :: r) = sg d ++ tkA [] r := by
  have := tkA_app d hd r [] []
  simpa [tkA, fl] using this
/-- All of the tokens' texts. -/
def szL (L : List ByteArray) : Nat := (L.map ByteArray.size).sum
theorem szL_app (a b : List ByteArray) : szL (a ++ b) = szL a + szL b := by unfold szL; rw [List.map_append, List.sum_append]
theorem szL_cons (a : ByteArray) (b : List ByteArray) : szL (a :: b) = a.size + szL b := by unfold szL; rw [List.map_cons, List.sum_cons]
theorem fl_sz (acc : List UInt8) : szL (fl acc) = acc.length := by
  unfold fl
  split
  · rename_i h; subst h; rfl
  · rw [szL_cons]; show acc.toArray.size + 0 = _; simp
theorem tkA_sz : ∀ (l acc : List UInt8), szL (tkA acc l) ≤ acc.length + l.length
  | [], acc => by rw [tkA, fl_sz]; simp
  | b :: l, acc => by
    rw [tkA]
    split
    · rw [szL_app, szL_app, fl_sz]
      have := tkA_sz l []
      have h2 : szL (sg b) ≤ 1 := by
        unfold sg
        split
        · exact Nat.zero_le _
        · rw [szL_cons]; exact Nat.le_refl _
      simp at this ⊢
      omega
    · have := tkA_sz l (acc ++ [b])
      simp at this ⊢
      omega
/-! ### an atom has no blanks, no brackets -/
theorem okN_free {b : UInt8} (h : okN (b.toNat : Int)) : isD b = false := by
  have h1 : b ≠ 32 := by rintro rfl; unfold okN at h; revert h; decide
  have h2 : b ≠ 40 := by rintro rfl; unfold okN at h; revert h; decide
  have h3 : b ≠ 41 := by rintro rfl; unfold okN at h; revert h; decide
  simp [isD, h1, h2, h3]
theorem name_free {x : ByteArray} (h : nameB x = true) : ∀ b ∈ x.data.toList, isD b = false := fun b hb => by
  obtain ⟨j, hj, e⟩ := List.getElem_of_mem hb
  by_cases hok : okN (b.toNat : Int)
  · exact okN_free hok
  · have hj2 : j < x.size := by simpa using hj
    have e2 : x[j]'hj2 = b := by rw [← e]; rfl
    rw [name_no hj2 (by rw [e2]; exact hok)] at h
    cases h
theorem leaf_free {a : Leaf} (h : LeafOk a) : ∀ b ∈ (leafT a).data.toList, isD b = false := by
  cases a with
  | follows => intro b hb; simp [leafT, followsW] at hb; rcases hb with rfl | rfl | rfl | rfl | rfl | rfl <;> rfl
  | done => intro b hb; simp [leafT, doneW] at hb; rcases hb with rfl | rfl | rfl | rfl <;> rfl
  | tag x =>
    intro b hb
    simp only [leafT, ba_app, List.mem_append] at hb
    rcases hb with (hb | hb) | hb
    · simp [tagW] at hb; rcases hb with rfl | rfl | rfl <;> rfl
    · simp [colonW] at hb; subst hb; rfl
    · exact name_free h b hb
  | maker x =>
    intro b hb
    simp only [leafT, ba_app, List.mem_append] at hb
    rcases hb with (hb | hb) | hb
    · simp [makerW] at hb; rcases hb with rfl | rfl | rfl | rfl | rfl <;> rfl
    · simp [colonW] at hb; subst hb; rfl
    · exact name_free h b hb
  | num k less n =>
    intro b hb
    simp only [leafT, ba_app, List.mem_append] at hb
    rcases hb with (hb | hb) | hb
    · rcases what_cases k with ⟨e, _⟩ | ⟨e, _⟩ | ⟨e, _⟩ | ⟨e, _⟩ <;> rw [e] at hb <;> simp at hb
      · rcases hb with rfl | rfl | rfl | rfl | rfl <;> rfl
      · rcases hb with rfl | rfl | rfl | rfl | rfl <;> rfl
      · rcases hb with rfl | rfl | rfl <;> rfl
      · rcases hb with rfl | rfl | rfl | rfl <;> rfl
    · rcases sign_cases less with ⟨e, _⟩ | ⟨e, _⟩ <;> rw [e] at hb <;> simp at hb <;> subst hb <;> rfl
    · rw [digW_list] at hb
      have := dig_byte n b hb
      have h1 : b ≠ 32 := by rintro rfl; revert this; decide
      have h2 : b ≠ 40 := by rintro rfl; revert this; decide
      have h3 : b ≠ 41 := by rintro rfl; revert this; decide
      simp [isD, h1, h2, h3]
theorem leaf_ne {a : Leaf} (h : LeafOk a) : (leafT a).data.toList ≠ [] := by
  intro e
  exact leaf_no (w := leafT a) (by right; right; right; right; right; exact ba_ext e) a ⟨h, rfl⟩
theorem ba_arr (a : ByteArray) : (⟨a.data.toList.toArray⟩ : ByteArray) = a := ba_ext (by simp)
theorem tkA_word {w : ByteArray} (hf : ∀ b ∈ w.data.toList, isD b = false) (hne : w.data.toList ≠ []) : tkA [] w.data.toList = [w] := by
  rw [tkA_free _ _ hf, List.nil_append]
  unfold fl
  rw [if_neg hne, ba_arr]
theorem word_free (k : Nat) : ∀ b ∈ (wordOf k).data.toList, isD b = false := by
  unfold wordOf
  split
  · intro b hb; simp [orW] at hb; rcases hb with rfl | rfl <;> rfl
  · intro b hb; simp [andW] at hb; rcases hb with rfl | rfl | rfl <;> rfl
theorem word_ne (k : Nat) : (wordOf k).data.toList ≠ [] := by
  unfold wordOf
  split <;> simp [orW, andW]
/-! ### the tokens of an own text -/
mutual
def tkN : Nd → Nat → List ByteArray
  | .atom a, _ => [leafT a]
  | .no n, _ => notW :: tkN n 3
  | .row k l, wi => if k + 1 < wi then openW :: (tkL l k ++ [closeW]) else tkL l k
def tkL : List Nd → Nat → List ByteArray
  | [], _ => []
  | n :: l, k => tkN n (k + 1) ++ tkM l k
def tkM : List Nd → Nat → List ByteArray
  | [], _ => []
  | n :: l, k => wordOf k :: (tkN n (k + 1) ++ tkM l k)
end
/-- What ends a word. -/
def Ends (r : List UInt8) : Prop := r = [] ∨ ∃ d r', r = d :: r' ∧ isD d = true
theorem tkA_ends {w : List UInt8} {T : List ByteArray} (h : tkA [] w = T) {r : List UInt8} (hr : Ends r) : tkA [] (w ++ r) = T ++ tkA [] r := by
  rcases hr with rfl | ⟨d, r', rfl, hd⟩
  · rw [List.append_nil, h, tkA]; simp [fl]
  · rw [tkA_app d hd, h, tkA_sg hd]
theorem tkM_of {k : Nat} : ∀ (l : List Nd), (∀ n ∈ l, ∀ r, Ends r → tkA [] (ownN n (k + 1) ++ r) = tkN n (k + 1) ++ tkA [] r) → ∀ r, Ends r → tkA [] (ownM l k ++ r) = tkM l k ++ tkA [] r ∧ Ends (ownM l k ++ r)
  | [], _, r, hr => by rw [ownM, tkM]; exact ⟨rfl, hr⟩
  | n :: l, h, r, hr => by
    obtain ⟨i1, i2⟩ := tkM_of l (fun x hx => h x (by simp [hx])) r hr
    rw [ownM, tkM]
    have e : sepW k ++ ownN n (k + 1) ++ ownM l k ++ r = 32 :: ((wordOf k).data.toList ++ (32 :: (ownN n (k + 1) ++ (ownM l k ++ r)))) := by
      unfold sepW
      simp
    rw [e]
    refine ⟨?_, Or.inr ⟨32, _, rfl, rfl⟩⟩
    rw [tkA_sg rfl, tkA_ends (tkA_word (word_free k) (word_ne k)) (Or.inr ⟨32, _, rfl, rfl⟩), tkA_sg rfl, h n (by simp) _ i2, i1]
    simp [sg]
theorem tkN_of {n : Nd} (h : NF n) : ∀ wi r, Ends r → tkA [] (ownN n wi ++ r) = tkN n wi ++ tkA [] r := by
  induction h with
  | @atom a h =>
    intro wi r hr
    rw [ownN, tkN]
    exact tkA_ends (tkA_word (leaf_free h) (leaf_ne h)) hr
  | @no n h ih =>
    intro wi r hr
    rw [ownN, tkN]
    have e : notW.data.toList ++ [32] ++ ownN n 3 ++ r = notW.data.toList ++ (32 :: (ownN n 3 ++ r)) := by simp
    rw [e, tkA_ends (tkA_word (w := notW) (by decide) (by decide)) (Or.inr ⟨32, _, rfl, rfl⟩), tkA_sg rfl, ih 3 r hr]
    simp [sg]
  | @row k l hk h hf hl ih =>
    intro wi r hr
    have hL : ∀ r, Ends r → tkA [] (ownL l k ++ r) = tkL l k ++ tkA [] r := fun r hr => by
      cases l with
      | nil => simp at hl
      | cons n l =>
        obtain ⟨i1, i2⟩ := tkM_of (k := k) l (fun x hx => ih x (by simp [hx]) (k + 1)) r hr
        rw [ownL, tkL, List.append_assoc, ih n (by simp) (k + 1) _ i2, i1, List.append_assoc]
    rw [ownN, tkN]
    split
    · have e : 40 :: ownL l k ++ [41] ++ r = 40 :: (ownL l k ++ (41 :: r)) := by simp
      rw [e, tkA_sg rfl, hL _ (Or.inr ⟨41, r, rfl, rfl⟩), tkA_sg rfl]
      simp [sg, openW, closeW]
    · exact hL r hr
theorem tk_own {n : Nd} (h : NF n) (wi : Nat) : tkS ⟨(ownN n wi).toArray⟩ = tkN n wi := by
  have := tkN_of h wi [] (Or.inl rfl)
  unfold tkS
  simpa [tkA, fl] using this
end Go.Proofs.YtpgbgeofhcpocaaGreatDoor
