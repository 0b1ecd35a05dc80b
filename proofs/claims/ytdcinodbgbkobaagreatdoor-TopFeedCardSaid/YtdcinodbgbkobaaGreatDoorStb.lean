/- A stable sort's plain law: ranges exchanged, turned, merged. Nothing of the program. -/
import Derived.Sort.LotA
namespace Go.Proofs.YtdcinodbgbkobaaGreatDoor
open Go.Sort
set_option linter.unusedVariables false
set_option linter.unusedSectionVars false
variable {α : Type} [Inhabited α] {lt : α → α → Bool} {d d' d1 d2 : Array α} {a b m n i j e k : Nat}

/-- The ranges of n places from a and from b on, exchanged. -/
structure SwpIn (a b n : Nat) (d d' : Array α) : Prop where
  size : d'.size = d.size
  left : ∀ t, t < n → d'[a + t]! = d[b + t]!
  right : ∀ t, t < n → d'[b + t]! = d[a + t]!
  rest : ∀ k, ¬ (a ≤ k ∧ k < a + n) → ¬ (b ≤ k ∧ k < b + n) → d'[k]! = d[k]!
  perm : ∀ lo hi, lo ≤ a → b + n ≤ hi → hi ≤ d.size → a + n ≤ b → PermIn lo hi d d'
theorem SwpIn.start (a b : Nat) (d : Array α) : SwpIn a b 0 d d := ⟨rfl, fun t h => by omega, fun t h => by omega, fun _ _ _ => rfl, fun lo hi _ _ _ _ => permIn_refl d lo hi⟩
theorem SwpIn.next (h : SwpIn a b i d d') (hab : a + n ≤ b) (hi : i < n) (hb : b + n ≤ d.size) : SwpIn a b (i + 1) d (swp d' (a + i) (b + i)) := by
  have hs := h.size
  have g := swp_get d' (show a + i < d'.size by omega) (show b + i < d'.size by omega)
  refine ⟨by rw [swp_size, hs], fun t ht => ?_, fun t ht => ?_, fun k h1 h2 => ?_, fun lo hi' h1 h2 h3 h4 => ?_⟩
  · rw [g, if_neg (by omega)]
    by_cases e : t = i
    · subst e; rw [if_pos rfl]; exact h.rest _ (by omega) (by omega)
    · rw [if_neg (by omega)]; exact h.left t (by omega)
  · rw [g]
    by_cases e : t = i
    · subst e; rw [if_pos rfl]; exact h.rest _ (by omega) (by omega)
    · rw [if_neg (by omega), if_neg (by omega)]; exact h.right t (by omega)
  · rw [g, if_neg (by omega), if_neg (by omega)]; exact h.rest k (by omega) (by omega)
  · exact permIn_trans d d' _ lo hi' (h.perm lo hi' h1 (by omega) h3 (by omega)) (swp_permIn d' lo hi' _ _ (by omega) (by omega) (by omega) (by omega) (by omega))

/-- 'x u v y' is turned to 'x v u y': u the places a .. m, v the places m .. b. -/
structure RotIn (a m b : Nat) (d d' : Array α) : Prop where
  size : d'.size = d.size
  left : ∀ t, t < b - m → d'[a + t]! = d[m + t]!
  right : ∀ t, t < m - a → d'[a + (b - m) + t]! = d[a + t]!
  rest : ∀ k, k < a ∨ b ≤ k → d'[k]! = d[k]!
  perm : ∀ lo hi, lo ≤ a → b ≤ hi → hi ≤ d.size → PermIn lo hi d d'
theorem RotIn.none (h : a = m ∨ m = b) (hab : a ≤ m ∧ m ≤ b) (d : Array α) : RotIn a m b d d := by
  refine ⟨rfl, fun t ht => ?_, fun t ht => ?_, fun _ _ => rfl, fun lo hi _ _ _ => permIn_refl d lo hi⟩
  · rcases h with h | h
    · subst h; rfl
    · omega
  · rcases h with h | h
    · omega
    · subst h; rw [Nat.sub_self, Nat.add_zero]
theorem RotIn.same (h : SwpIn (m - i) m i d d') (hi : i ≤ m) : RotIn (m - i) m (m + i) d d' := by
  refine ⟨h.size, fun t ht => h.left t (by omega), fun t ht => ?_, fun k hk => h.rest k (by omega) (by omega), fun lo hi' h1 h2 h3 => h.perm lo hi' h1 h2 h3 (by omega)⟩
  have := h.right t (by omega)
  rw [show m - i + (m + i - m) + t = m + t by omega]
  exact this
theorem RotIn.more (hij : j < i) (hi : i ≤ m) (h : SwpIn (m - i) m j d1 d2) (h' : RotIn (m - (i - j)) m (m + j) d2 d') : RotIn (m - i) m (m + j) d1 d' := by
  refine ⟨h'.size.trans h.size, fun t ht => ?_, fun t ht => ?_, fun k hk => ?_, fun lo hi' h1 h2 h3 => ?_⟩
  · rw [h'.rest _ (by omega)]; exact h.left t (by omega)
  · by_cases ht2 : t < j
    · have h1 := h'.left t (by omega)
      rw [show m - (i - j) + t = m - i + (m + j - m) + t by omega] at h1
      rw [h1]; exact h.right t ht2
    · have h1 := h'.right (t - j) (by omega)
      rw [show m - (i - j) + (m + j - m) + (t - j) = m - i + (m + j - m) + t by omega] at h1
      rw [h1, h.rest _ (by omega) (by omega)]
      congr 1; omega
  · rw [h'.rest k (by omega)]; exact h.rest k (by omega) (by omega)
  · exact permIn_trans d1 d2 d' lo hi' (h.perm lo hi' h1 h2 h3 (by omega)) (h'.perm lo hi' (by omega) h2 (by rw [h.size]; exact h3))
theorem RotIn.less (hij : i < j) (hi : i ≤ m) (h : SwpIn (m - i) (m + j - i) i d1 d2) (h' : RotIn (m - i) m (m + (j - i)) d2 d') : RotIn (m - i) m (m + j) d1 d' := by
  refine ⟨h'.size.trans h.size, fun t ht => ?_, fun t ht => ?_, fun k hk => ?_, fun lo hi' h1 h2 h3 => ?_⟩
  · by_cases ht2 : t < j - i
    · rw [h'.left t (by omega)]; exact h.rest _ (by omega) (by omega)
    · have h1 := h'.right (t - (j - i)) (by omega)
      rw [show m - i + (m + (j - i) - m) + (t - (j - i)) = m - i + t by omega] at h1
      have h2 := h.left (t - (j - i)) (by omega)
      rw [h1, h2]
      congr 1; omega
  · have h1 := h'.rest (m - i + (m + j - m) + t) (by omega)
    have h2 := h.right t (by omega)
    rw [h1, show m - i + (m + j - m) + t = m + j - i + t by omega]
    exact h2
  · rw [h'.rest k (by omega)]; exact h.rest k (by omega) (by omega)
  · exact permIn_trans d1 d2 d' lo hi' (h.perm lo hi' h1 (by omega) h3 (by omega)) (h'.perm lo hi' (by omega) (by omega) (by rw [h.size]; exact h3))

/-- The element at a goes up to e. -/
structure ShL (a e : Nat) (d d' : Array α) : Prop where
  size : d'.size = d.size
  low : ∀ t, a ≤ t → t < e → d'[t]! = d[t + 1]!
  top : d'[e]! = d[a]!
  rest : ∀ k, k < a ∨ e < k → d'[k]! = d[k]!
  perm : ∀ lo hi, lo ≤ a → e < hi → hi ≤ d.size → PermIn lo hi d d'
theorem ShL.start (a : Nat) (d : Array α) : ShL a a d d := ⟨rfl, fun t h1 h2 => by omega, rfl, fun _ _ => rfl, fun lo hi _ _ _ => permIn_refl d lo hi⟩
theorem ShL.next (h : ShL a k d d') (ha : a ≤ k) (hk : k + 1 < d.size) : ShL a (k + 1) d (swp d' k (k + 1)) := by
  have hs := h.size
  have g := swp_get d' (show k < d'.size by omega) (show k + 1 < d'.size by omega)
  refine ⟨by rw [swp_size, hs], fun t h1 h2 => ?_, ?_, fun q hq => ?_, fun lo hi h1 h2 h3 => ?_⟩
  · rw [g, if_neg (by omega)]
    by_cases e : t = k
    · subst e; rw [if_pos rfl]; exact h.rest _ (by omega)
    · rw [if_neg e]; exact h.low t h1 (by omega)
  · rw [g, if_pos rfl]; exact h.top
  · rw [g, if_neg (by omega), if_neg (by omega)]; exact h.rest q (by omega)
  · exact permIn_trans d d' _ lo hi (h.perm lo hi h1 (by omega) h3) (swp_permIn d' lo hi _ _ (by omega) (by omega) (by omega) (by omega) (by omega))
/-- The element at m goes down to e. -/
structure ShR (e m : Nat) (d d' : Array α) : Prop where
  size : d'.size = d.size
  high : ∀ t, e ≤ t → t < m → d'[t + 1]! = d[t]!
  low : d'[e]! = d[m]!
  rest : ∀ k, k < e ∨ m < k → d'[k]! = d[k]!
  perm : ∀ lo hi, lo ≤ e → m < hi → hi ≤ d.size → PermIn lo hi d d'
theorem ShR.start (m : Nat) (d : Array α) : ShR m m d d := ⟨rfl, fun t h1 h2 => by omega, rfl, fun _ _ => rfl, fun lo hi _ _ _ => permIn_refl d lo hi⟩
theorem ShR.next (h : ShR (k + 1) m d d') (hk : k + 1 ≤ m) (hm : m < d.size) : ShR k m d (swp d' (k + 1) k) := by
  have hs := h.size
  have g := swp_get d' (show k + 1 < d'.size by omega) (show k < d'.size by omega)
  refine ⟨by rw [swp_size, hs], fun t h1 h2 => ?_, ?_, fun q hq => ?_, fun lo hi h1 h2 h3 => ?_⟩
  · rw [g, if_neg (by omega)]
    by_cases e : t = k
    · subst e; rw [if_pos rfl]; exact h.rest _ (by omega)
    · rw [if_neg (by omega)]; exact h.high t (by omega) h2
  · rw [g, if_pos rfl]; exact h.low
  · rw [g, if_neg (by omega), if_neg (by omega)]; exact h.rest q (by omega)
  · exact permIn_trans d d' _ lo hi (h.perm lo hi (by omega) h2 h3) (swp_permIn d' lo hi _ _ (by omega) (by omega) (by omega) (by omega) (by omega))

/-- A search by halves for the first place at which g holds. -/
structure Bis (g : Nat → Bool) (lo hi s r : Nat) : Prop where
  lo_s : lo ≤ s
  s_r : s ≤ r
  r_hi : r ≤ hi
  no : ∀ c, lo ≤ c → c < s → g c = false
  yes : ∀ c, r ≤ c → c < hi → g c = true
theorem Bis.start (g : Nat → Bool) {lo hi : Nat} (h : lo ≤ hi) : Bis g lo hi lo hi := ⟨Nat.le_refl _, h, Nat.le_refl _, fun c h1 h2 => by omega, fun c h1 h2 => by omega⟩
theorem Bis.right {g : Nat → Bool} {lo hi s r c : Nat} (h : Bis g lo hi s r) (hm : ∀ c c', lo ≤ c → c ≤ c' → c' < hi → g c = true → g c' = true) (h1 : s ≤ c) (h2 : c < r) (hg : g c = false) : Bis g lo hi (c + 1) r := by
  have := h.lo_s; have := h.r_hi
  refine ⟨by omega, by omega, h.r_hi, fun q q1 q2 => ?_, h.yes⟩
  cases hq : g q with
  | false => rfl
  | true => rw [hm q c q1 (by omega) (by omega) hq] at hg; cases hg
theorem Bis.left {g : Nat → Bool} {lo hi s r c : Nat} (h : Bis g lo hi s r) (hm : ∀ c c', lo ≤ c → c ≤ c' → c' < hi → g c = true → g c' = true) (h1 : s ≤ c) (h2 : c < r) (hg : g c = true) : Bis g lo hi s c := by
  have := h.lo_s; have := h.r_hi
  exact ⟨h.lo_s, h1, by omega, h.no, fun q q1 q2 => hm c q (by omega) q1 q2 hg⟩

theorem sorted_join {c : Nat} (h1 : SortedIn lt a c d) (h2 : SortedIn lt c b d) (h : ∀ i j, a ≤ i → i < c → c ≤ j → j < b → lt d[j]! d[i]! = false) : SortedIn lt a b d := by
  intro i j hi hij hj
  by_cases h3 : j < c
  · exact h1 i j hi hij h3
  · by_cases h4 : c ≤ i
    · exact h2 i j h4 hij hj
    · exact h i j hi (by omega) (by omega) hj
/-- 'x < y', y not above z: x < z. -/
theorem lt_le (hS : SWO lt) {x y z : α} (h : lt x y = true) (h2 : lt z y = false) : lt x z = true := by
  cases h3 : lt x z with
  | true => rfl
  | false => rw [hS.ntrans x z y h3 h2] at h; cases h
theorem le_lt (hS : SWO lt) {x y z : α} (h : lt y x = false) (h2 : lt y z = true) : lt x z = true := by
  cases h3 : lt x z with
  | true => rfl
  | false => rw [hS.ntrans y x z h h3] at h2; cases h2
theorem sorted_le (hS : SWO lt) (h : SortedIn lt a b d) {i j : Nat} (h1 : a ≤ i) (h2 : i ≤ j) (h3 : j < b) : lt d[j]! d[i]! = false := by
  rcases Nat.lt_or_ge i j with h4 | h4
  · exact h i j h1 h4 h3
  · rw [show j = i by omega]; exact hS.irrefl _
/-- One element, ahead of a sorted range. -/
theorem one_left_mono (hS : SWO lt) (s2 : SortedIn lt m b d) (a : Nat) : ∀ c c', m ≤ c → c ≤ c' → c' < b → (!lt d[c]! d[a]!) = true → (!lt d[c']! d[a]!) = true := by
  intro c c' h1 h2 h3 h
  have e : lt d[c]! d[a]! = false := by simpa using h
  rw [hS.ntrans _ _ _ (sorted_le hS s2 h1 h2 h3) e]
  rfl
theorem merge_left (hS : SWO lt) (hm : m = a + 1) (hmb : m < b) (s2 : SortedIn lt m b d) (hi : Bis (fun c => !lt d[c]! d[a]!) m b i i) (h : ShL a (i - 1) d d') : SortedIn lt a b d' := by
  have h1 := hi.lo_s; have h2 := hi.r_hi
  have no : ∀ c, m ≤ c → c < i → lt d[c]! d[a]! = true := fun c q1 q2 => by have := hi.no c q1 q2; simpa using this
  have yes : ∀ c, i ≤ c → c < b → lt d[c]! d[a]! = false := fun c q1 q2 => by have := hi.yes c q1 q2; simpa using this
  have hv : ∀ t, a ≤ t → t < b → (t < i - 1 ∧ d'[t]! = d[t + 1]!) ∨ (t = i - 1 ∧ d'[t]! = d[a]!) ∨ (i - 1 < t ∧ d'[t]! = d[t]!) := fun t q1 q2 => by
    rcases Nat.lt_trichotomy t (i - 1) with q | q | q
    · exact Or.inl ⟨q, h.low t q1 q⟩
    · exact Or.inr (Or.inl ⟨q, by rw [q]; exact h.top⟩)
    · exact Or.inr (Or.inr ⟨q, h.rest t (Or.inr q)⟩)
  intro x y hx hxy hy
  rcases hv x hx (by omega) with ⟨p1, p2⟩ | ⟨p1, p2⟩ | ⟨p1, p2⟩ <;> rcases hv y (by omega) hy with ⟨q1, q2⟩ | ⟨q1, q2⟩ | ⟨q1, q2⟩ <;> rw [p2, q2] <;> first | omega | skip
  · exact s2 _ _ (by omega) (by omega) (by omega)
  · exact hS.asymmA (no _ (by omega) (by omega))
  · exact s2 _ _ (by omega) (by omega) hy
  · exact yes y (by omega) hy
  · exact s2 _ _ (by omega) (by omega) hy
theorem one_right_mono (hS : SWO lt) (s1 : SortedIn lt a m d) (q : Nat) : ∀ c c', a ≤ c → c ≤ c' → c' < m → lt d[q]! d[c]! = true → lt d[q]! d[c']! = true := by
  intro c c' h1 h2 h3 h
  exact lt_le hS h (sorted_le hS s1 h1 h2 h3)
theorem merge_right (hS : SWO lt) (hm : b = m + 1) (ham : a < m) (s1 : SortedIn lt a m d) (hi : Bis (fun c => lt d[m]! d[c]!) a m i i) (h : ShR i m d d') : SortedIn lt a b d' := by
  have h1 := hi.lo_s; have h2 := hi.r_hi
  have no : ∀ c, a ≤ c → c < i → lt d[m]! d[c]! = false := fun c q1 q2 => hi.no c q1 q2
  have yes : ∀ c, i ≤ c → c < m → lt d[m]! d[c]! = true := fun c q1 q2 => hi.yes c q1 q2
  have hv : ∀ t, a ≤ t → t < b → (t < i ∧ d'[t]! = d[t]!) ∨ (t = i ∧ d'[t]! = d[m]!) ∨ (i < t ∧ d'[t]! = d[t - 1]!) := fun t q1 q2 => by
    rcases Nat.lt_trichotomy t i with q | q | q
    · exact Or.inl ⟨q, h.rest t (Or.inl q)⟩
    · exact Or.inr (Or.inl ⟨q, by rw [q]; exact h.low⟩)
    · refine Or.inr (Or.inr ⟨q, ?_⟩)
      have := h.high (t - 1) (by omega) (by omega)
      rwa [show t - 1 + 1 = t by omega] at this
  intro x y hx hxy hy
  rcases hv x hx (by omega) with ⟨p1, p2⟩ | ⟨p1, p2⟩ | ⟨p1, p2⟩ <;> rcases hv y (by omega) hy with ⟨q1, q2⟩ | ⟨q1, q2⟩ | ⟨q1, q2⟩ <;> rw [p2, q2] <;> first | omega | skip
  · exact s1 _ _ hx hxy (by omega)
  · exact no x hx (by omega)
  · exact s1 _ _ hx (by omega) (by omega)
  · exact hS.asymmA (yes _ (by omega) (by omega))
  · exact s1 _ _ (by omega) (by omega) (by omega)
/-- The two places that are compared, from outside in. -/
theorem sym_mono (hS : SWO lt) (s1 : SortedIn lt a m d) (s2 : SortedIn lt m b d) {p lo hi : Nat} (h1 : a ≤ lo) (h2 : hi ≤ m) (h3 : ∀ c, lo ≤ c → c < hi → m ≤ p - c ∧ p - c < b) : ∀ c c', lo ≤ c → c ≤ c' → c' < hi → lt d[p - c]! d[c]! = true → lt d[p - c']! d[c']! = true := by
  intro c c' q1 q2 q3 h
  have hc := h3 c q1 (by omega)
  have hc' := h3 c' (by omega) q3
  have e1 : lt d[c']! d[c]! = false := sorted_le hS s1 (by omega) q2 (by omega)
  have e2 : lt d[p - c]! d[p - c']! = false := sorted_le hS s2 hc'.1 (by omega) hc.2
  exact le_lt hS e2 (lt_le hS h e1)
/-- Where the halves are parted: from the left half nothing is above anything of the right one. -/
structure Parted (lt : α → α → Bool) (a mid b st en : Nat) (d d2 : Array α) : Prop where
  perm : PermIn a b d d2
  p1 : SortedIn lt a st d2
  p2 : SortedIn lt st mid d2
  p3 : SortedIn lt mid en d2
  p4 : SortedIn lt en b d2
  cross : ∀ i j, a ≤ i → i < mid → mid ≤ j → j < b → lt d2[j]! d2[i]! = false
theorem sym_parted (hS : SWO lt) {mid st lo hi : Nat} (ham : a < m) (hmb : m < b) (hd : b ≤ d.size) (s1 : SortedIn lt a m d) (s2 : SortedIn lt m b d) (hmid : mid = (a + b) / 2) (hlo : lo = if mid < m then mid + m - b else a) (hhi : hi = if mid < m then mid else m) (h : Bis (fun c => lt d[mid + m - 1 - c]! d[c]!) lo hi st st) (hr : RotIn st m (mid + m - st) d d2) : Parted lt a mid b st (mid + m - st) d d2 := by
  have hb1 := h.lo_s; have hb2 := h.r_hi
  have hlo2 : a ≤ lo ∧ hi ≤ m ∧ lo ≤ hi ∧ mid + m - st ≤ b ∧ m ≤ mid + m - st ∧ hi ≤ mid ∧ mid + m - b ≤ lo := by
    split at hlo <;> split at hhi <;> omega
  obtain ⟨g1, g2, g3, g4, g5, g6, g7⟩ := hlo2
  have L : ∀ t, a ≤ t → t < st → d2[t]! = d[t]! := fun t q1 q2 => hr.rest t (Or.inl q2)
  have M1 : ∀ t, st ≤ t → t < mid → d2[t]! = d[m + (t - st)]! := fun t q1 q2 => by
    have := hr.left (t - st) (by omega)
    rwa [show st + (t - st) = t by omega] at this
  have M2 : ∀ t, mid ≤ t → t < mid + m - st → d2[t]! = d[st + (t - mid)]! := fun t q1 q2 => by
    have := hr.right (t - mid) (by omega)
    rwa [show st + (mid + m - st - m) + (t - mid) = t by omega] at this
  have R : ∀ t, mid + m - st ≤ t → d2[t]! = d[t]! := fun t q1 => hr.rest t (Or.inr q1)
  have no : ∀ c, lo ≤ c → c < st → lt d[mid + m - 1 - c]! d[c]! = false := fun c q1 q2 => h.no c q1 q2
  have yes : ∀ c, st ≤ c → c < hi → lt d[mid + m - 1 - c]! d[c]! = true := fun c q1 q2 => h.yes c q1 q2
  refine ⟨hr.perm a b (by omega) g4 hd, fun i j q1 q2 q3 => ?_, fun i j q1 q2 q3 => ?_, fun i j q1 q2 q3 => ?_, fun i j q1 q2 q3 => ?_, fun i j q1 q2 q3 q4 => ?_⟩
  · rw [L i q1 (by omega), L j (by omega) q3]; exact s1 i j q1 q2 (by omega)
  · rw [M1 i q1 (by omega), M1 j (by omega) q3]; exact s2 _ _ (by omega) (by omega) (by omega)
  · rw [M2 i q1 (by omega), M2 j (by omega) q3]; exact s1 _ _ (by omega) (by omega) (by omega)
  · rw [R i q1, R j (by omega)]; exact s2 _ _ (by omega) q2 q3
  · have A1 : ∀ x y, a ≤ x → x < st → mid + m - st ≤ y → y < b → lt d[y]! d[x]! = false := fun x y x1 x2 y1 y2 => by
      have hne : lo ≤ st - 1 := by split at hlo <;> split at hhi <;> omega
      have e1 := no (st - 1) hne (by omega)
      have e2 : lt d[st - 1]! d[x]! = false := sorted_le hS s1 x1 (by omega) (by omega)
      have e3 : lt d[y]! d[mid + m - 1 - (st - 1)]! = false := sorted_le hS s2 (by omega) (by omega) y2
      exact hS.ntrans _ _ _ e3 (hS.ntrans _ _ _ e1 e2)
    have A2 : ∀ x y, st ≤ x → x < m → m ≤ y → y < mid + m - st → lt d[x]! d[y]! = false := fun x y x1 x2 y1 y2 => by
      have hne : st < hi := by split at hlo <;> split at hhi <;> omega
      have e1 := hS.asymmA (yes st (Nat.le_refl _) hne)
      have e2 : lt d[x]! d[st]! = false := sorted_le hS s1 (by omega) x1 x2
      have e3 : lt d[mid + m - 1 - st]! d[y]! = false := sorted_le hS s2 y1 (by omega) (by omega)
      exact hS.ntrans _ _ _ e2 (hS.ntrans _ _ _ e1 e3)
    by_cases c1 : i < st
    · rw [L i q1 c1]
      by_cases c2 : j < mid + m - st
      · rw [M2 j q3 c2]; exact s1 _ _ q1 (by omega) (by omega)
      · rw [R j (by omega)]; exact A1 i j q1 c1 (by omega) q4
    · rw [M1 i (by omega) q2]
      by_cases c2 : j < mid + m - st
      · rw [M2 j q3 c2]; exact A2 _ _ (by omega) (by omega) (by omega) (by omega)
      · rw [R j (by omega)]; exact sorted_le hS s2 (by omega) (by omega) q4
/-- Both halves are merged: so is all. -/
theorem Parted.done {mid st en : Nat} (h : Parted lt a mid b st en d d2) (hs : b ≤ d.size) (ham : a ≤ mid) (hmb : mid ≤ b) {d3 d4 : Array α} (h3 : PermIn a mid d2 d3 ∧ SortedIn lt a mid d3) (h4 : PermIn mid b d3 d4 ∧ SortedIn lt mid b d4) : PermIn a b d d4 ∧ SortedIn lt a b d4 := by
  have z2 := h.perm.1; have z3 := h3.1.1; have z4 := h4.1.1
  refine ⟨permIn_trans d d2 d4 a b h.perm (permIn_trans d2 d3 d4 a b (permIn_mono d2 d3 a mid a b (Nat.le_refl _) hmb (by omega) h3.1) (permIn_mono d3 d4 mid b a b ham (Nat.le_refl _) (by omega) h4.1)), ?_⟩
  refine sorted_join (c := mid) (fun i j q1 q2 q3 => ?_) h4.2 (fun i j q1 q2 q3 q4 => ?_)
  · rw [h4.1.2.1 i (Or.inl (by omega)), h4.1.2.1 j (Or.inl q3)]; exact h3.2 i j q1 q2 q3
  · rw [h4.1.2.1 i (Or.inl q2)]
    refine permIn_all d3 d4 mid b (fun y => lt y d3[i]! = false) (by omega) h4.1 (fun y y1 y2 => ?_) j q3 q4
    rw [h3.1.2.1 y (Or.inr y1)]
    exact permIn_all d2 d3 a mid (fun x => lt d2[y]! x = false) (by omega) h3.1 (fun x x1 x2 => h.cross x y x1 x2 y1 y2) i q1 q2
/-- A half that has one part only is sorted already. -/
theorem half_done {mid st : Nat} (h1 : SortedIn lt a st d) (h2 : SortedIn lt st mid d) (h : ¬ (a < st ∧ st < mid)) (hs : a ≤ st ∧ st ≤ mid) : SortedIn lt a mid d := by
  rcases (show a = st ∨ st = mid by omega) with e | e
  · subst e; exact h2
  · subst e; exact h1

theorem PermIn.sorted_out {x y : Nat} (h : PermIn a b d d') (hs : SortedIn lt x y d) (ho : y ≤ a ∨ b ≤ x) : SortedIn lt x y d' := by
  intro i j q1 q2 q3
  rw [h.2.1 i (by omega), h.2.1 j (by omega)]
  exact hs i j q1 q2 q3
/-- The blocks of s places are sorted each. -/
def Blocks (lt : α → α → Bool) (s n : Nat) (d : Array α) : Prop := ∀ q, SortedIn lt (q * s) (min (q * s + s) n) d
/-- The first j blocks of s places are sorted each. -/
def BlocksTo (lt : α → α → Bool) (s j : Nat) (d : Array α) : Prop := ∀ q, q < j → SortedIn lt (q * s) (q * s + s) d
theorem mul_step {q j s : Nat} (h : q < j) : q * s + s ≤ j * s := by
  have := Nat.mul_le_mul_right s (show q + 1 ≤ j from h)
  rwa [Nat.add_mul, Nat.one_mul] at this
theorem BlocksTo.start (lt : α → α → Bool) (s : Nat) (d : Array α) : BlocksTo lt s 0 d := fun q h => by omega
theorem BlocksTo.next {s : Nat} (h : BlocksTo lt s j d) (h1 : PermIn (j * s) (j * s + s) d d') (h2 : SortedIn lt (j * s) (j * s + s) d') : BlocksTo lt s (j + 1) d' := by
  intro q hq
  by_cases e : q = j
  · subst e; exact h2
  · have := mul_step (s := s) (show q < j by omega)
    exact PermIn.sorted_out h1 (h q (by omega)) (Or.inl this)
theorem BlocksTo.done {s : Nat} (h : BlocksTo lt s j d) (hn : n < j * s + s) (h1 : PermIn (j * s) n d d') (h2 : SortedIn lt (j * s) n d') : Blocks lt s n d' := by
  intro q x y q1 q2 q3
  rcases Nat.lt_trichotomy q j with e | e | e
  · have := mul_step (s := s) e
    exact PermIn.sorted_out h1 (h q e) (Or.inl this) x y q1 q2 (by omega)
  · subst e; exact h2 x y q1 q2 (by omega)
  · have := mul_step (s := s) e
    omega
/-- Of the blocks of s places the first j pairs are merged. -/
def Merged (lt : α → α → Bool) (s j n : Nat) (d : Array α) : Prop := (∀ q, q < j → SortedIn lt (q * (2 * s)) (q * (2 * s) + 2 * s) d) ∧ ∀ q, 2 * j ≤ q → SortedIn lt (q * s) (min (q * s + s) n) d
theorem Merged.start {s : Nat} (h : Blocks lt s n d) : Merged lt s 0 n d := ⟨fun q h => by omega, fun q _ => h q⟩
theorem two_mul_mul (j s : Nat) : 2 * j * s = j * (2 * s) := by rw [Nat.mul_comm 2 j, Nat.mul_assoc]
theorem Merged.left {s : Nat} (h : Merged lt s j n d) (hn : j * (2 * s) + s ≤ n) : SortedIn lt (j * (2 * s)) (j * (2 * s) + s) d := by
  have := h.2 (2 * j) (Nat.le_refl _)
  rwa [two_mul_mul, Nat.min_eq_left hn] at this
theorem Merged.right {s : Nat} (h : Merged lt s j n d) : SortedIn lt (j * (2 * s) + s) (min (j * (2 * s) + s + s) n) d := by
  have := h.2 (2 * j + 1) (by omega)
  rwa [Nat.add_mul, Nat.one_mul, two_mul_mul] at this
theorem Merged.next {s : Nat} (h : Merged lt s j n d) (h1 : PermIn (j * (2 * s)) (j * (2 * s) + 2 * s) d d') (h2 : SortedIn lt (j * (2 * s)) (j * (2 * s) + 2 * s) d') : Merged lt s (j + 1) n d' := by
  refine ⟨fun q hq => ?_, fun q hq => ?_⟩
  · by_cases e : q = j
    · subst e; exact h2
    · have := mul_step (s := 2 * s) (show q < j by omega)
      exact PermIn.sorted_out h1 (h.1 q (by omega)) (Or.inl this)
  · have h3 := Nat.mul_le_mul_right s hq
    rw [show 2 * (j + 1) = 2 * j + 2 by omega, Nat.add_mul, two_mul_mul] at h3
    exact PermIn.sorted_out h1 (h.2 q (by omega)) (Or.inr (by omega))
theorem Merged.done {s : Nat} (h : Merged lt s j n d) (hn : n < j * (2 * s) + 2 * s) (h1 : PermIn (j * (2 * s)) n d d') (h2 : SortedIn lt (j * (2 * s)) n d') : Blocks lt (2 * s) n d' := by
  intro q x y q1 q2 q3
  rcases Nat.lt_trichotomy q j with e | e | e
  · have := mul_step (s := 2 * s) e
    exact PermIn.sorted_out h1 (h.1 q e) (Or.inl this) x y q1 q2 (by omega)
  · subst e; exact h2 x y q1 q2 (by omega)
  · have := mul_step (s := 2 * s) e
    omega
theorem Merged.short {s : Nat} (h : Merged lt s j n d) (hn : n ≤ j * (2 * s) + s) : SortedIn lt (j * (2 * s)) n d := by
  have := h.2 (2 * j) (Nat.le_refl _)
  rwa [two_mul_mul, Nat.min_eq_right hn] at this
theorem Blocks.all {s : Nat} (h : Blocks lt s n d) (hn : n ≤ s) : SortedIn lt 0 n d := by
  have := h 0
  rwa [Nat.zero_mul, Nat.zero_add, Nat.min_eq_right hn] at this
end Go.Proofs.YtdcinodbgbkobaaGreatDoor
