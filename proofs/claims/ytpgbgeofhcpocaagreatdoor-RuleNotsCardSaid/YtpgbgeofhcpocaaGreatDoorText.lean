/- A region that draws its order, walked once in the text's order: between the operations that turn the world ('fs', each forced: nothing else can run there) stand operations that leave the world alone. Nothing of the program. -/
import Derived.Test.YtpgbgeofhcpocaaGreatDoorBase
namespace Go.Proofs.YtpgbgeofhcpocaaGreatDoor
set_option linter.unusedVariables false

/-- The first k operations have run. -/
def upTo (m : Nat) : Nat → Array Bool
  | 0 => Array.replicate m false
  | k + 1 => (upTo m k).setIfInBounds k true
theorem upTo_size (m : Nat) : ∀ k, (upTo m k).size = m
  | 0 => by simp [upTo]
  | k + 1 => by simp [upTo, upTo_size m k]
theorem upTo_past (m : Nat) : ∀ k i, k ≤ i → i < m → (upTo m k).getD i true = false
  | 0, i, _, hi => by simp [upTo, hi]
  | k + 1, i, hk, hi => by
    unfold upTo
    rw [getD_set_ne true (by omega)]
    exact upTo_past m k i (by omega) hi
theorem upTo_false (m : Nat) : ∀ k i, (upTo m k).getD i false = true → i < k
  | 0, i, h => by unfold upTo at h; rw [getD_replicate_false] at h; cases h
  | k + 1, i, h => by
    by_cases hi : k = i
    · omega
    · unfold upTo at h
      rw [getD_set_ne false hi] at h
      have := upTo_false m k i h
      omega
theorem upTo_done (m : Nat) : ∀ k i, i < k → i < m → (upTo m k).getD i false = true
  | 0, i, h, _ => by omega
  | k + 1, i, h, hm => by
    unfold upTo
    by_cases hi : k = i
    · subst hi
      simp [upTo_size, hm]
    · exact getD_set_true (upTo_done m k i (by omega) hm)

section
variable {P : Program} {ops : Array Oper} {md : Region.Mode} {w : World}

/-- Each of the operations from k to n is waited for, up to n; each one behind n waits for one from n on. -/
def fanB (md : Region.Mode) (ops : Array Oper) (k n : Nat) : Bool :=
  ((List.range n).all fun i => decide (i < k) || (List.range (n + 1)).any fun j => decide (i < j) && Region.waitsFor md ops j i) &&
  ((List.range ops.size).all fun t => decide (t ≤ n) || (List.range t).any fun s => decide (n ≤ s) && Region.waitsFor md ops t s)
/-- What has run waited for nothing that has not. -/
def shutB (md : Region.Mode) (ops : Array Oper) (k : Nat) : Bool :=
  (List.range k).all fun j => match ops[j]? with | some o => o.after.all fun e => !Region.binds md e || decide (e.on < k ∧ e.on < ops.size) | none => true

theorem head_start {k n : Nat} (hs : shutB md ops k = true) (hkn : k ≤ n) : HeadInv md ops n (upTo ops.size k) := by
  refine ⟨upTo_size _ _, fun j oj hj hl e he hb => ?_, fun t ht hm => upTo_past _ k t (by omega) hm⟩
  have hjk := upTo_false _ _ _ hl
  have h1 := List.all_eq_true.1 hs j (List.mem_range.2 hjk)
  rw [hj] at h1
  have h2 := Array.all_eq_true_iff_forall_mem.1 h1 e he
  rw [hb] at h2
  simp at h2
  exact upTo_done _ _ _ h2.1 h2.2

/-- While one of the head has not run nothing behind it can. -/
theorem fan_waits {k n : Nat} (hf : fanB md ops k n = true) {listed : Array Bool} (inv : HeadInv md ops n listed) :
    ∀ (d i : Nat), n - i ≤ d → k ≤ i → i < n → listed.getD i true = false → ∀ t, n ≤ t → t ∉ Region.ready md ops listed := by
  unfold fanB at hf
  rw [Bool.and_eq_true] at hf
  obtain ⟨f1, f2⟩ := hf
  intro d
  induction d with
  | zero => intro i hd _ hi; omega
  | succ d ih =>
    intro i hd hki hin hun t ht hr
    obtain ⟨_, ot, hot, hall⟩ := mem_ready.1 hr
    have htm : t < ops.size := (Array.getElem?_eq_some_iff.1 hot).1
    rcases Nat.lt_or_ge n t with hnt | hnt
    · have h1 := List.all_eq_true.1 f2 t (List.mem_range.2 htm)
      rw [Bool.or_eq_true, decide_eq_true_eq] at h1
      rcases h1 with h1 | h1
      · omega
      · obtain ⟨s, hs, hs2⟩ := List.any_eq_true.1 h1
        rw [Bool.and_eq_true, decide_eq_true_eq] at hs2
        obtain ⟨o', ho', e, he, hb, hon⟩ := Region.waitsFor_spec hs2.2
        obtain rfl : o' = ot := Option.some.inj (ho'.symm.trans hot)
        have h3 := hall e he hb
        have hsl := List.mem_range.1 hs
        rw [hon, getD_both (inv.tail s hs2.1 (by omega))] at h3
        cases h3
    · have h1 := List.all_eq_true.1 f1 i (List.mem_range.2 hin)
      rw [Bool.or_eq_true, decide_eq_true_eq] at h1
      rcases h1 with h1 | h1
      · omega
      · obtain ⟨j, hj, hj2⟩ := List.any_eq_true.1 h1
        rw [Bool.and_eq_true, decide_eq_true_eq] at hj2
        obtain ⟨oj, hoj, e, he, hb, hon⟩ := Region.waitsFor_spec hj2.2
        have hjn := List.mem_range.1 hj
        rcases Nat.lt_or_ge j n with hlt | hge
        · cases hl : listed.getD j false with
          | true =>
            have h3 := inv.closed j oj hoj hl e he hb
            rw [hon, getD_both hun] at h3
            cases h3
          | false => exact ih j (by omega) (by omega) hlt (getD_in (by rw [inv.size]; exact (Array.getElem?_eq_some_iff.1 hoj).1) hl) t ht hr
        · obtain rfl : j = t := by omega
          obtain rfl : oj = ot := Option.some.inj (hoj.symm.trans hot)
          have h3 := hall e he hb
          rw [hon, getD_both hun] at h3
          cases h3

/-- An operation of the head that leaves the world alone may be taken as the first. -/
theorem head_first {n i : Nat} {oi : Oper} {v : Value} {L : Array Bool → Act → Prop} (hi : ops[i]? = some oi) (hsel : ∀ (j : Nat) (o : Oper) cs b, ops[j]? = some o → o.op ≠ .select cs b) (hin : i < n)
    (hW : ∀ listed, HeadInv md ops n listed → listed.getD i true = false → ∀ t ∈ Region.ready md ops listed, t < n) (hL : ∀ listed a, L listed a → ∀ j ∈ Region.ready md ops listed, n ≤ j) :
    ∀ (f : Nat) (listed : Array Bool) (a : Act), HeadInv md ops n listed →
      (∀ j oj, ops[j]? = some oj → j ≠ i → listed.getD j true = false → (∀ e ∈ oj.after, Region.binds md e = true → e.on ≠ i) → oi.apart ops oj = true) →
      i ∈ Region.ready md ops listed → YieldsAt P ops w oi v a → wpAnyL P md ops w n L f (listed.setIfInBounds i true) (a.put oi.dst v) → wpAnyL P md ops w n L (f + 1) listed a := by
  intro f
  induction f with
  | zero =>
    intro listed a inv _ hr hy H
    refine ⟨List.ne_nil_of_mem hr, fun j hj => ?_⟩
    have hjn := hW listed inv (mem_ready.1 hr).1 j hj
    by_cases hji : j = i
    · subst hji; exact ⟨hjn, hy.stOp hi H⟩
    · have := hL _ _ H j (ready_mono hj hji); omega
  | succ f ih =>
    intro listed a inv hfree hr hy H
    refine ⟨List.ne_nil_of_mem hr, fun j hj => ?_⟩
    have hun := (mem_ready.1 hr).1
    have hjn := hW listed inv hun j hj
    by_cases hji : j = i
    · subst hji; exact ⟨hjn, hy.stOp hi H⟩
    · obtain ⟨hjun, oj, hoj, hall⟩ := mem_ready.1 hj
      have hno : ∀ e ∈ oj.after, Region.binds md e = true → e.on ≠ i := by
        rintro e he hb rfl
        have h1 := hall e he hb
        rw [getD_both hun] at h1
        cases h1
      refine ⟨hjn, stOp_mono (fun a' h3 => ih _ a' (inv.set hj hjn) (fun k ok hk hki hunk hnok => hfree k ok hk hki ?_ hnok) (ready_mono hr (Ne.symm hji)) h3.1 ?_)
        (stOp_put hoj (hfree j oj hoj hji hjun hno) (fun cs b => hsel i oi cs b hi) (fun cs b => hsel j oj cs b hoj) hy (H.2 j (ready_mono hj hji)).2)⟩
      · by_cases hjk : j = k
        · subst hjk; exact hjun
        · rw [getD_set_ne true hjk] at hunk; exact hunk
      · rw [Array.setIfInBounds_comm _ _ hji]; exact h3.2

/-- The operations from k to n in the text's order; then just n can run. -/
def lexB (md : Region.Mode) (ops : Array Oper) (n : Nat) : Nat → Nat → Bool
  | 0, k => decide (k = n) && decide (Region.ready md ops (upTo ops.size n) = [n])
  | f + 1, k => (Region.ready md ops (upTo ops.size k)).contains k && Region.free md ops (upTo ops.size k) k && lexB md ops n f (k + 1)

theorem head_lex {n : Nat} {Lq : Act → Prop} (hsel : Region.noSelect ops = true) (k0 : Nat) (hf : fanB md ops k0 n = true) :
    ∀ (l : List Oper) (k : Nat) (a : Act), (∀ j, j < l.length → l[j]? = ops[k + j]?) → k + l.length = n → k0 ≤ k → HeadInv md ops n (upTo ops.size k) → lexB md ops n l.length k = true → wpStill P ops w Lq l a →
    wpAnyL P md ops w n (fun listed' a' => listed' = upTo ops.size n ∧ Lq a') l.length (upTo ops.size k) a
  | [], k, a, _, hk, _, _, hB, h => by
    obtain rfl : k = n := by simpa using hk
    exact ⟨rfl, h⟩
  | o :: l, k, a, hl, hk, hk0, inv, hB, h => by
    have h0 : ops[k]? = some o := by simpa using (hl 0 (by simp)).symm
    simp only [List.length_cons, lexB, Bool.and_eq_true] at hB
    obtain ⟨⟨hr, hfr⟩, hB'⟩ := hB
    have hkn : k < n := by simp only [List.length_cons] at hk; omega
    have hr' : k ∈ Region.ready md ops (upTo ops.size k) := by simpa using hr
    have hst : stOp P ops w k (wpStill P ops w Lq l) a := by unfold stOp; simp only [h0]; exact h
    obtain ⟨v, hy, hK⟩ := yieldsAt_of_stOp h0 hst
    have hend : Region.ready md ops (upTo ops.size n) = [n] := by
      clear hst hy hK h hl inv hr hfr hr' h0
      have : ∀ (f k : Nat), lexB md ops n f k = true → Region.ready md ops (upTo ops.size n) = [n] := by
        intro f
        induction f with
        | zero => intro k h; simp only [lexB, Bool.and_eq_true, decide_eq_true_eq] at h; exact h.2
        | succ f ih => intro k h; simp only [lexB, Bool.and_eq_true] at h; exact ih _ h.2
      exact this _ _ hB'
    refine head_first h0 (Region.noSelect_spec hsel) hkn (fun listed inv' hun t ht => ?_) (fun listed a hL j hj => ?_) l.length _ a inv (Region.free_spec h0 hfr) hr' hy
      (head_lex hsel k0 hf l (k + 1) _ (fun j hj => by have := hl (j + 1) (by simp; omega); simpa [Nat.add_assoc, Nat.add_comm 1 j] using this) (by simp only [List.length_cons] at hk; omega) (by omega) (inv.set hr' hkn) hB' hK)
    · rcases Nat.lt_or_ge t n with h1 | h1
      · exact h1
      · exact absurd ht (fan_waits hf inv' (n - k) k (Nat.le_refl _) hk0 hkn hun t h1)
    · rw [hL.1, hend] at hj
      simp at hj
      omega

/-- May the region be walked so from k on, its world turning at fs alone? -/
def textB (md : Region.Mode) (ops : Array Oper) : List Nat → Nat → Bool
  | [], k => Region.lexFrom md ops (ops.size - k) k (upTo ops.size k)
  | n :: fs, k => decide (k ≤ n) && decide (n < ops.size) && fanB md ops k n && shutB md ops k && lexB md ops n (n - k) k && textB md ops fs (n + 1)

/-- What is to be shown then. -/
def wpText (P : Program) (ops : Array Oper) (Q : Exit → Act → World → Prop) : List Nat → Nat → List Oper → Act → World → Prop
  | [], _, l, a, w => wpStill P ops w (fun a' => Q .normal a' w) l a
  | n :: fs, k, l, a, w => wpStill P ops w (fun a' => wpList P ops (Exit.then (fun a'' w'' => wpText P ops Q fs (n + 1) (l.drop (n - k + 1)) a'' w'') Q) ((l.drop (n - k)).take 1) a' w) (l.take (n - k)) a

theorem wpAny_text {Q : Exit → Act → World → Prop} (hsel : Region.noSelect ops = true) : ∀ (fs : List Nat) (k : Nat) (l : List Oper) (a : Act) (w : World), (∀ j, l[j]? = ops[k + j]?) → k + l.length = ops.size → textB md ops fs k = true →
    wpText P ops Q fs k l a w → wpAny P md ops Q (ops.size - k) (upTo ops.size k) a w
  | [], k, l, a, w, hl, hk, hB, h => by
    have hlen : ops.size - k = l.length := by omega
    rw [hlen]
    refine wpAny_of_still (Q := fun a' => Q .normal a' w) (fun _ h => h) _ _ _ ?_
    exact wpAnyS_lex hsel l k _ a hl (by rw [← hlen]; exact hB) h
  | n :: fs, k, l, a, w, hl, hk, hB, h => by
    simp only [textB, Bool.and_eq_true, decide_eq_true_eq] at hB
    obtain ⟨⟨⟨⟨⟨hkn, hnm⟩, hf⟩, hs⟩, hlex⟩, hB'⟩ := hB
    have htl : (l.take (n - k)).length = n - k := by simp; omega
    have hn0 : ops[n]? = some (ops[n]'hnm) := Array.getElem?_eq_getElem hnm
    have H := head_lex (P := P) (w := w) hsel k hf (l.take (n - k)) k a (fun j hj => by
      rw [htl] at hj
      rw [List.getElem?_take_of_lt hj]; exact hl j) (by rw [htl]; omega) (Nat.le_refl _) (head_start hs hkn) (by rw [htl]; exact hlex) h
    have hend : Region.ready md ops (upTo ops.size n) = [n] := by
      have : ∀ (f k : Nat), lexB md ops n f k = true → Region.ready md ops (upTo ops.size n) = [n] := by
        intro f
        induction f with
        | zero => intro k h; simp only [lexB, Bool.and_eq_true, decide_eq_true_eq] at h; exact h.2
        | succ f ih => intro k h; simp only [lexB, Bool.and_eq_true] at h; exact ih _ h.2
      exact this _ _ hlex
    have hd : (l.drop (n - k)).take 1 = [ops[n]'hnm] := by
      have h1 : l[n - k]? = some (ops[n]'hnm) := by rw [hl, show k + (n - k) = n from by omega]; exact hn0
      obtain ⟨hlt, h2⟩ := List.getElem?_eq_some_iff.1 h1
      rw [List.drop_eq_getElem_cons hlt, h2]
      rfl
    have := wpAny_of_head (Q' := Q) (g := ops.size - n) (fun listed a' hL => by
      obtain ⟨rfl, hw⟩ := hL
      rw [show ops.size - n = (ops.size - (n + 1)) + 1 from by omega]
      refine ⟨(fun h0 => by rw [hend] at h0; cases h0), fun i hi => ?_⟩
      rw [hend] at hi
      obtain rfl : i = n := by simpa using hi
      rw [hd] at hw
      have hw' : wpOp P ops Q i (fun a'' w'' => wpText P ops Q fs (i + 1) (l.drop (i - k + 1)) a'' w'') a' w := by
        unfold wpOp
        rw [hn0]
        exact hw
      exact wpOp_mono (fun a'' w'' h3 => wpAny_text hsel fs (i + 1) _ a'' w'' (fun j => by
        rw [List.getElem?_drop, hl]; congr 1; omega) (by simp; omega) hB' h3) hw') _ _ _ H
    rw [htl, show n - k + (ops.size - n) = ops.size - k from by omega] at this
    exact this

/-- A REGION THAT DRAWS ITS ORDER, walked in the text's order. -/
theorem wp_text {id : Nat} {Q : Exit → Act → World → Prop} {a : Act} {w : World} {l : List Oper} (fs : List Nat) (hm : P.follows .mixedOrders = true) (hB : (Region.noSelect l.toArray && textB .any l.toArray fs 0) = true)
    (h : wpText P l.toArray Q fs 0 l a w.drew) : (Code.region id l.toArray true).wp P Q a w := by
  rw [Bool.and_eq_true] at hB
  refine wp_region_any hm ?_
  have := wpAny_text (md := .any) (Q := Q) hB.1 fs 0 l a w.drew (by simp) (by simp) hB.2 h
  simpa [upTo] using this
end

end Go.Proofs.YtpgbgeofhcpocaaGreatDoor
