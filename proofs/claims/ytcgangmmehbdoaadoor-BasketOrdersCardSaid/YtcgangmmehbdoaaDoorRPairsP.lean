/- The document's pairs: their order; plain. -/
import Derived.Test.YtcgangmmehbdoaaDoorCounts
import Derived.Test.YtcgangmmehbdoaaDoorPrP
import Derived.Test.YtcgangmmehbdoaaDoorRPut
import Derived.Test.YtcgangmmehbdoaaDoorPlan
namespace Go.Proofs.YtcgangmmehbdoaaDoor
open Go.Shelf Go.RowKit Go.Maps
set_option linter.unusedVariables false

def ltPB (x y : Pr) : Bool := decide (cmpPI x y < 0)
theorem ltPB_iff (x y : Pr) : ltPB x y = true ↔ ltP x y := by unfold ltPB ltP; exact decide_eq_true_iff
theorem ltPB_n {x y : Pr} (h : x.2 ≠ y.2) : ltPB x y = decide (y.2 < x.2) := by
  rw [Bool.eq_iff_iff, ltPB_iff, ltP_iff, decide_eq_true_iff]
  constructor
  · rintro (⟨_, h1⟩ | ⟨h1, _⟩)
    · exact h1
    · exact absurd h1 h
  · exact fun h1 => Or.inl ⟨h, h1⟩
theorem ltPB_f {x y : Pr} (h : x.2 = y.2) (h2 : x.1.1 ≠ y.1.1) : ltPB x y = Op.bytesLess x.1.1.toList y.1.1.toList := by
  rw [Bool.eq_iff_iff, ltPB_iff, ltP_iff, less_iff]
  constructor
  · rintro (⟨h1, _⟩ | ⟨_, ⟨_, h1⟩ | ⟨h1, _⟩⟩)
    · exact absurd h h1
    · exact h1
    · exact absurd h1 h2
  · exact fun h1 => Or.inr ⟨h, Or.inl ⟨h2, h1⟩⟩
theorem ltPB_t {x y : Pr} (h : x.2 = y.2) (h2 : x.1.1 = y.1.1) : ltPB x y = Op.bytesLess x.1.2.toList y.1.2.toList := by
  rw [Bool.eq_iff_iff, ltPB_iff, ltP_iff, less_iff]
  constructor
  · rintro (⟨h1, _⟩ | ⟨_, ⟨h1, _⟩ | ⟨_, h1⟩⟩)
    · exact absurd h h1
    · exact absurd h2 h1
    · exact h1
  · exact fun h1 => Or.inr ⟨h, Or.inr ⟨h2, h1⟩⟩

set_option maxHeartbeats 1000000 in
set_option maxRecDepth 100000 in
theorem rlessP_any (x y : Pr) (w : World) : Calls Tryd.prog 32 #[.agg #[.string x.1.1, .string x.1.2, .int .i64 x.2], .agg #[.string y.1.1, .string y.1.2, .int .i64 y.2]] w fun e w' => e = .returned (.bool (ltPB x y)) ∧ Below w.heap.size w w' := by
  obtain ⟨w1, hw1⟩ : ∃ w1, w.alloc (.cells #[.string x.1.1, .string x.1.2, .int .i64 x.2] 46) = w1 := ⟨_, rfl⟩
  have H1 : Blk w1 w.heap.size 46 #[.string x.1.1, .string x.1.2, .int .i64 x.2] := by rw [← hw1]; exact Blk.new _ _ _
  have HB1 : Hid (Below w.heap.size w w1) := Lib.hid (by rw [← hw1]; exact (Below.refl _ _).alloc (Nat.le_refl _) _)
  obtain ⟨w2, hw2⟩ : ∃ w2, w1.alloc (.cells #[.string y.1.1, .string y.1.2, .int .i64 y.2] 46) = w2 := ⟨_, rfl⟩
  have H2 : Blk w2 w1.heap.size 46 #[.string y.1.1, .string y.1.2, .int .i64 y.2] := by rw [← hw2]; exact Blk.new _ _ _
  have H3 : Blk w2 w.heap.size 46 #[.string x.1.1, .string x.1.2, .int .i64 x.2] := by rw [← hw2]; exact H1.alloc _
  have HB2 : Hid (Below w.heap.size w w2) := Lib.hid (by rw [← hw2]; exact HB1.out.alloc HB1.out.size _)
  have c0 : w2.cell? ⟨w.heap.size, 0, none⟩ = some (.string x.1.1) := H3.cell 0
  have c1 : w2.cell? ⟨w.heap.size, 1, none⟩ = some (.string x.1.2) := H3.cell 1
  have c2 : w2.cell? ⟨w.heap.size, 2, none⟩ = some (.int .i64 x.2) := H3.cell 2
  have d0 : w2.cell? ⟨w1.heap.size, 0, none⟩ = some (.string y.1.1) := H2.cell 0
  have d1 : w2.cell? ⟨w1.heap.size, 1, none⟩ = some (.string y.1.2) := H2.cell 1
  have d2 : w2.cell? ⟨w1.heap.size, 2, none⟩ = some (.int .i64 y.2) := H2.cell 2
  clear H1 H2 H3
  by_cases q1 : x.2 = y.2
  · by_cases q2 : x.1.1 = y.1.1
    · have HR := Lib.hid (ltPB_t q1 q2)
      have e1 : (x.2 != y.2) = false := by simp [q1]
      have e2 : (!x.1.1.toList == y.1.1.toList) = false := by simp [q2]
      clear q1 q2
      go_enter Tryd.func32, Tryd.ntmps32
      go_wp2_with fail
      go_ret
      exact ⟨ret_bool HR.out.symm, HB2.out⟩
    · have HR := Lib.hid (ltPB_f q1 q2)
      have e1 : (x.2 != y.2) = false := by simp [q1]
      have e2 : (!x.1.1.toList == y.1.1.toList) = true := by
        rw [Bool.not_eq_true']
        exact Bool.eq_false_iff.2 (fun e => q2 ((beq_list _ _).1 e))
      clear q1 q2
      go_enter Tryd.func32, Tryd.ntmps32
      go_wp2_with fail
      go_ret
      exact ⟨ret_bool HR.out.symm, HB2.out⟩
  · have HR := Lib.hid (ltPB_n q1)
    have e1 : (x.2 != y.2) = true := by rw [bne_iff_ne]; exact q1
    clear q1
    go_enter Tryd.func32, Tryd.ntmps32
    go_wp2_with fail
    go_ret
    exact ⟨ret_bool HR.out.symm, HB2.out⟩

/-! ### plain -/
abbrev HasL := List (ByteArray × Int)
/-- All things of baskets, rising. -/
def ItTo (L : List HasL) (its : List ByteArray) : Prop := its.Pairwise ltN ∧ ∀ y, y ∈ its ↔ ∃ hs ∈ L, ∃ h ∈ hs, h.1 = y
theorem ItTo.start : ItTo [] [] := ⟨List.Pairwise.nil, fun y => ⟨fun h => (by cases h), fun h => (by obtain ⟨hs, h1, _⟩ := h; cases h1)⟩⟩
theorem ItTo.open_ {L : List HasL} {its : List ByteArray} (h : ItTo L its) : ItTo (L ++ [[]]) its := ⟨h.1, fun y => by
  rw [h.2]
  constructor
  · rintro ⟨hs, h1, h2⟩; exact ⟨hs, List.mem_append.2 (Or.inl h1), h2⟩
  · rintro ⟨hs, h1, h2⟩
    rcases List.mem_append.1 h1 with h1 | h1
    · exact ⟨hs, h1, h2⟩
    · simp at h1; subst h1; obtain ⟨h3, h4, _⟩ := h2; cases h4⟩
theorem ItTo.step {L : List HasL} {r : HasL} {x : ByteArray × Int} {its out : List ByteArray} (h : ItTo (L ++ [r]) its) (ho : out.Pairwise ltN ∧ ∀ y, y ∈ out ↔ y ∈ its ∨ y = x.1) : ItTo (L ++ [r ++ [x]]) out := ⟨ho.1, fun y => by
  rw [ho.2, h.2]
  constructor
  · rintro (⟨hs, h1, h2⟩ | rfl)
    · rcases List.mem_append.1 h1 with h1 | h1
      · exact ⟨hs, List.mem_append.2 (Or.inl h1), h2⟩
      · simp at h1; subst h1; obtain ⟨h3, h4, h5⟩ := h2; exact ⟨hs ++ [x], by simp, h3, List.mem_append.2 (Or.inl h4), h5⟩
    · exact ⟨r ++ [x], by simp, x, by simp, rfl⟩
  · rintro ⟨hs, h1, h2⟩
    rcases List.mem_append.1 h1 with h1 | h1
    · exact Or.inl ⟨hs, List.mem_append.2 (Or.inl h1), h2⟩
    · simp at h1; subst h1
      obtain ⟨h3, h4, h5⟩ := h2
      rcases List.mem_append.1 h4 with h4 | h4
      · exact Or.inl ⟨r, by simp, h3, h4, h5⟩
      · simp at h4; subst h4; exact Or.inr h5.symm⟩
theorem rise_nodup {l : List ByteArray} (h : l.Pairwise ltN) : l.Nodup := by
  rw [List.nodup_iff_pairwise_ne]
  exact h.imp (fun hab e => by subst e; exact ltN_irr _ hab)
theorem ItTo.len {L : List HasL} {its I : List ByteArray} (h : ItTo L its) (hI : ∀ hs ∈ L, ∀ h ∈ hs, h.1 ∈ I) : its.length ≤ I.length :=
  List.Nodup.length_le_of_subset (rise_nodup h.1) (fun y hy => by
    obtain ⟨hs, h1, x, h2, rfl⟩ := (h.2 y).1 hy
    exact hI hs h1 x h2)
/-- The pairs so far: of all things ahead of the i-th one, and of that one those ahead of the j-th. -/
def PrTo (C : ByteArray → ByteArray → Nat) (fl : Int) (its : List ByteArray) (i j : Nat) (out : List Pr) : Prop :=
  out.Pairwise ltP ∧ ∀ p : Pr, p ∈ out ↔ (p.2 = (C p.1.1 p.1.2 : Int) ∧ 1 ≤ p.2 ∧ fl ≤ p.2) ∧ ((p.1.1 ∈ its.take i ∧ p.1.2 ∈ its) ∨ (its[i]? = some p.1.1 ∧ p.1.2 ∈ its.take j))
section
variable {C : ByteArray → ByteArray → Nat} {fl : Int} {its : List ByteArray} {i j : Nat} {out : List Pr}
theorem PrTo.start (C : ByteArray → ByteArray → Nat) (fl : Int) (its : List ByteArray) : PrTo C fl its 0 0 [] := ⟨List.Pairwise.nil, fun p => by simp⟩
theorem PrTo.next (h : PrTo C fl its i its.length out) (hi : i < its.length) : PrTo C fl its (i + 1) 0 out := ⟨h.1, fun p => by
  rw [h.2, List.take_length, List.take_zero, List.take_add_one, List.mem_append]
  refine and_congr_right fun _ => ?_
  have e : p.1.1 ∈ its[i]?.toList ↔ its[i]? = some p.1.1 := by
    cases its[i]? <;> simp [eq_comm]
  rw [e]
  constructor
  · rintro (⟨h1, h2⟩ | ⟨h1, h2⟩)
    · exact Or.inl ⟨Or.inl h1, h2⟩
    · exact Or.inl ⟨Or.inr h1, h2⟩
  · rintro (⟨h1 | h1, h2⟩ | ⟨_, h2⟩)
    · exact Or.inl ⟨h1, h2⟩
    · exact Or.inr ⟨h1, h2⟩
    · cases h2⟩
theorem PrTo.skip {a b : ByteArray} (h : PrTo C fl its i j out) (ha : its[i]? = some a) (hb : its[j]? = some b) (hn : ¬ (1 ≤ (C a b : Int) ∧ fl ≤ (C a b : Int))) : PrTo C fl its i (j + 1) out := ⟨h.1, fun p => by
  rw [h.2, List.take_add_one, List.mem_append, hb]
  refine and_congr_right fun hc => ?_
  constructor
  · rintro (h1 | ⟨h1, h2⟩)
    · exact Or.inl h1
    · exact Or.inr ⟨h1, Or.inl h2⟩
  · rintro (h1 | ⟨h1, h2 | h2⟩)
    · exact Or.inl h1
    · exact Or.inr ⟨h1, h2⟩
    · simp at h2
      rw [ha] at h1
      injection h1 with h1
      exact absurd (by rw [h1, ← h2, ← hc.1]; exact hc.2) hn⟩
theorem PrTo.put {a b : ByteArray} {o2 : List Pr} (h : PrTo C fl its i j out) (ha : its[i]? = some a) (hb : its[j]? = some b) (hc : 1 ≤ (C a b : Int) ∧ fl ≤ (C a b : Int)) (ho : o2.Pairwise ltP ∧ ∀ y, y ∈ o2 ↔ y ∈ out ∨ y = ((a, b), (C a b : Int))) : PrTo C fl its i (j + 1) o2 := ⟨ho.1, fun p => by
  rw [ho.2, h.2, List.take_add_one, List.mem_append, hb]
  constructor
  · rintro (⟨h0, h1 | ⟨h1, h2⟩⟩ | rfl)
    · exact ⟨h0, Or.inl h1⟩
    · exact ⟨h0, Or.inr ⟨h1, Or.inl h2⟩⟩
    · exact ⟨⟨rfl, hc⟩, Or.inr ⟨ha, Or.inr (by simp)⟩⟩
  · rintro ⟨h0, h1 | ⟨h1, h2 | h2⟩⟩
    · exact Or.inl ⟨h0, Or.inl h1⟩
    · exact Or.inl ⟨h0, Or.inr ⟨h1, h2⟩⟩
    · simp at h2
      rw [ha] at h1
      injection h1 with h1
      obtain ⟨⟨p1, p2⟩, p3⟩ := p
      simp only at h1 h2 h0
      subst h1 h2
      exact Or.inr (by rw [h0.1])⟩
theorem PrTo.fresh {a b : ByteArray} {z : Int} (h : PrTo C fl its i j out) (hr : its.Pairwise ltN) (ha : its[i]? = some a) (hb : its[j]? = some b) : ((a, b), z) ∉ out := fun hm => by
  rcases ((h.2 _).1 hm).2 with ⟨h1, _⟩ | ⟨_, h2⟩
  · exact ltN_irr _ (take_lt hr ha h1)
  · exact ltN_irr _ (take_lt hr hb h2)
theorem PrTo.len (h : PrTo C fl its i j out) : out.length ≤ its.length * its.length := by
  refine pr_len (I := its) ?_ (fun p hp => ?_)
  · rw [List.nodup_iff_pairwise_ne, List.pairwise_map]
    refine h.1.imp_of_mem ?_
    intro x y hx hy hxy he
    have h1 := ((h.2 x).1 hx).1.1
    have h2 := ((h.2 y).1 hy).1.1
    have : x = y := by
      obtain ⟨x1, x2⟩ := x
      obtain ⟨y1, y2⟩ := y
      simp only at he h1 h2
      subst he
      rw [h1, h2]
    rw [this] at hxy
    exact ltP_irr _ hxy
  · rcases ((h.2 p).1 hp).2 with ⟨h1, h2⟩ | ⟨h1, h2⟩
    · exact ⟨List.mem_of_mem_take h1, h2⟩
    · exact ⟨List.mem_of_getElem? h1, List.mem_of_mem_take h2⟩
theorem PrTo.done {L : List HasL} (h : PrTo (rC L) fl its its.length 0 out) (hi : ItTo L its) (hC : ∀ x y, rC L x y ≠ 0 → (∃ hs ∈ L, ∃ h ∈ hs, h.1 = x) ∧ ∃ hs ∈ L, ∃ h ∈ hs, h.1 = y) : IsPairs (rC L) fl out := ⟨h.1, fun p => by
  rw [h.2, List.take_length]
  constructor
  · exact fun h => h.1
  · intro h0
    obtain ⟨h1, h2⟩ := hC p.1.1 p.1.2 (fun e => by rw [e] at h0; omega)
    exact ⟨h0, Or.inl ⟨(hi.2 _).2 h1, (hi.2 _).2 h2⟩⟩⟩
end
theorem sin_mem {hs : HasL} {x : ByteArray} {t : Int} (h : sinP hs x = some t) : ∃ q ∈ hs, q.1 = x := by
  unfold sinP at h
  obtain ⟨q, h1, _⟩ := Option.map_eq_some_iff.1 h
  exact ⟨q, List.mem_of_find?_eq_some h1, by have h2 := List.find?_some h1; simpa using h2⟩
theorem rC_mem {L : List HasL} {x y : ByteArray} (h : rC L x y ≠ 0) : (∃ hs ∈ L, ∃ h ∈ hs, h.1 = x) ∧ ∃ hs ∈ L, ∃ h ∈ hs, h.1 = y := by
  unfold rC at h
  obtain ⟨hs, h1, h2⟩ := List.countP_pos_iff.1 (Nat.pos_of_ne_zero h)
  rw [decide_eq_true_iff] at h2
  unfold sinI at h2
  refine ⟨⟨hs, h1, ?_⟩, hs, h1, ?_⟩
  · cases hx : sinP hs x with
    | none => rw [hx] at h2; simp at h2
    | some t => exact sin_mem hx
  · cases hy : sinP hs y with
    | none => rw [hy] at h2; simp at h2; omega
    | some t => exact sin_mem hy

end Go.Proofs.YtcgangmmehbdoaaDoor
