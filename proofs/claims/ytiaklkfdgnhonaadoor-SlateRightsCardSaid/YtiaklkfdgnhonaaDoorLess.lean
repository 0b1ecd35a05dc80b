/- Less and Same of the document; slices.Clone. -/
import Derived.Test.YtiaklkfdgnhonaaDoorRankP
namespace Go.Proofs.YtiaklkfdgnhonaaDoor
open Go.RowKit Go.Maps Go.Sort
set_option linter.unusedVariables false

theorem ret_bool {a b : Bool} (h : a = b) : Ending.returned (.bool a) = .returned (.bool b) := by rw [h]

theorem ahead_score {x y : Ch} (h : x.score ≠ y.score) : (aheadI x y < 0) ↔ y.score < x.score := by
  have h0 : cmpI y.score x.score ≠ 0 := fun e => h ((cmpI_tri.zero x.score y.score).1 e)
  simp only [aheadI, orL, if_neg h0]
  unfold cmpI
  split
  · omega
  · split <;> omega
theorem ahead_item {x y : Ch} (h : x.score = y.score) (h1 : x.item ≠ y.item) : (aheadI x y < 0) ↔ Op.bytesLess x.item.toList y.item.toList = true := by
  have h0 : cmpI y.score x.score = 0 := (cmpI_tri.zero x.score y.score).2 h
  have h2 : cmpS x.item y.item ≠ 0 := fun e => h1 ((cmpS_zero _ _).1 e)
  simp only [aheadI, orL, if_pos h0, if_neg h2]
  rw [cmpS_neg, bytesLess_eq, decide_eq_true_eq]
theorem ahead_maker {x y : Ch} (h : x.score = y.score) (h1 : x.item = y.item) (h3 : x.maker ≠ y.maker) : (aheadI x y < 0) ↔ Op.bytesLess x.maker.toList y.maker.toList = true := by
  have h0 : cmpI y.score x.score = 0 := (cmpI_tri.zero x.score y.score).2 h
  have h2 : cmpS x.item y.item = 0 := (cmpS_zero _ _).2 h1
  have h4 : cmpS x.maker y.maker ≠ 0 := fun e => h3 ((cmpS_zero _ _).1 e)
  simp only [aheadI, orL, if_pos h0, if_pos h2, if_neg h4]
  rw [cmpS_neg, bytesLess_eq, decide_eq_true_eq]
theorem ahead_tags {x y : Ch} (h : x.score = y.score) (h1 : x.item = y.item) (h3 : x.maker = y.maker) : (aheadI x y < 0) ↔ Op.bytesLess x.tags.toList y.tags.toList = true := by
  have h0 : cmpI y.score x.score = 0 := (cmpI_tri.zero x.score y.score).2 h
  have h2 : cmpS x.item y.item = 0 := (cmpS_zero _ _).2 h1
  have h4 : cmpS x.maker y.maker = 0 := (cmpS_zero _ _).2 h3
  simp only [aheadI, orL, if_pos h0, if_pos h2, if_pos h4]
  rw [bytesLess_eq, decide_eq_true_eq, ← cmpS_neg]
  split <;> omega

theorem dec_of {p : Prop} [Decidable p] {b : Bool} (h : p ↔ b = true) : decide p = b := by cases b <;> simp_all

theorem bne_list (a b : ByteArray) : (!(a.toList == b.toList)) = !decide (a = b) := by
  have := beq_list a b
  by_cases h : a = b
  · rw [this.2 h]; simp [h]
  · rw [Bool.eq_false_iff.2 (fun e => h (this.1 e))]; simp [h]

set_option maxHeartbeats 1000000 in
theorem less_any (x y : Ch) (w : World) : Calls Tryd.prog 26 #[.agg #[.string x.item, .string x.maker, .string x.tags, .int .i64 x.score], .agg #[.string y.item, .string y.maker, .string y.tags, .int .i64 y.score]] w fun e w' =>
    e = .returned (.bool (decide (aheadI x y < 0))) ∧ Below w.heap.size w w' := by
  by_cases g1 : x.score = y.score
  · have b1 : (x.score != y.score) = false := by simp [g1]
    by_cases g2 : x.item = y.item
    · have b2 : (!(x.item.toList == y.item.toList)) = false := by rw [bne_list]; simp [g2]
      by_cases g3 : x.maker = y.maker
      · have b3 : (!(x.maker.toList == y.maker.toList)) = false := by rw [bne_list]; simp [g3]
        rw [show decide (aheadI x y < 0) = Op.bytesLess x.tags.toList y.tags.toList from dec_of (ahead_tags g1 g2 g3)]
        obtain ⟨i1, m1, t1, s1⟩ := x
        obtain ⟨i2, m2, t2, s2⟩ := y
        clear g1 g2 g3
        go_enter Tryd.func26, Tryd.ntmps26
        go_wp2
        go_ret
        exact ⟨rfl, ((Below.refl _ _).alloc (Nat.le_refl _) _).alloc (by simp) _⟩
      · have b3 : (!(x.maker.toList == y.maker.toList)) = true := by rw [bne_list]; simp [g3]
        rw [show decide (aheadI x y < 0) = Op.bytesLess x.maker.toList y.maker.toList from dec_of (ahead_maker g1 g2 g3)]
        obtain ⟨i1, m1, t1, s1⟩ := x
        obtain ⟨i2, m2, t2, s2⟩ := y
        clear g1 g2 g3
        go_enter Tryd.func26, Tryd.ntmps26
        go_wp2
        go_ret
        exact ⟨rfl, ((Below.refl _ _).alloc (Nat.le_refl _) _).alloc (by simp) _⟩
    · have b2 : (!(x.item.toList == y.item.toList)) = true := by rw [bne_list]; simp [g2]
      rw [show decide (aheadI x y < 0) = Op.bytesLess x.item.toList y.item.toList from dec_of (ahead_item g1 g2)]
      obtain ⟨i1, m1, t1, s1⟩ := x
      obtain ⟨i2, m2, t2, s2⟩ := y
      clear g1 g2
      go_enter Tryd.func26, Tryd.ntmps26
      go_wp2
      go_ret
      exact ⟨rfl, ((Below.refl _ _).alloc (Nat.le_refl _) _).alloc (by simp) _⟩
  · have b1 : (x.score != y.score) = true := by simpa using g1
    rw [show decide (aheadI x y < 0) = decide (y.score < x.score) from decide_eq_decide.2 (ahead_score g1)]
    obtain ⟨i1, m1, t1, s1⟩ := x
    obtain ⟨i2, m2, t2, s2⟩ := y
    clear g1
    go_enter Tryd.func26, Tryd.ntmps26
    go_wp2
    go_ret
    exact ⟨rfl, ((Below.refl _ _).alloc (Nat.le_refl _) _).alloc (by simp) _⟩

/-- The i-th choice's cells. -/
def ChAt (w : World) (b o : Nat) (x : Ch) : Prop :=
  w.cell? ⟨b, o, none⟩ = some (.string x.item) ∧ w.cell? ⟨b, o + 1, none⟩ = some (.string x.maker) ∧ w.cell? ⟨b, o + 2, none⟩ = some (.string x.tags) ∧ w.cell? ⟨b, o + 3, none⟩ = some (.int .i64 x.score)
/-- The slice with the address A holds the choices l, below block B. -/
def ChsAt (w : World) (B : Nat) (A : Option Addr) (l : List Ch) : Prop := RowIn w B 4 A l.length (l.flatMap chC)
theorem ChsAt.at {w : World} {B : Nat} {A : Option Addr} {l : List Ch} (h : ChsAt w B A l) (hl : 0 < l.length) : ∃ b off, A = some ⟨b, off, none⟩ ∧ b < B ∧ ∀ i x, l[i]? = some x → ChAt w b (off + i * 4) x := by
  obtain ⟨b, off, hA, hb, hc⟩ := RowIn.at h hl
  refine ⟨b, off, hA, hb, fun i x hx => ?_⟩
  have g := fun j (hj : j < 4) => flat_get chC 4 chC_len l i j x hx hj
  refine ⟨?_, ?_, ?_, ?_⟩
  · have := hc (i * 4 + 0) _ (by rw [g 0 (by omega)]; rfl); exact this
  · have := hc (i * 4 + 1) _ (by rw [g 1 (by omega)]; rfl); rw [Nat.add_assoc]; exact this
  · have := hc (i * 4 + 2) _ (by rw [g 2 (by omega)]; rfl); rw [Nat.add_assoc]; exact this
  · have := hc (i * 4 + 3) _ (by rw [g 3 (by omega)]; rfl); rw [Nat.add_assoc]; exact this

theorem ChAt.keep {w w' : World} {b o : Nat} {x : Ch} (h : ChAt w b o x) (hk : ∀ j, w'.cell? ⟨b, j, none⟩ = w.cell? ⟨b, j, none⟩) : ChAt w' b o x :=
  ⟨(hk _).trans h.1, (hk _).trans h.2.1, (hk _).trans h.2.2.1, (hk _).trans h.2.2.2⟩

/-- Are two choices one, cell by cell? -/
def eqB (x y : Ch) : Bool := decide (x.item = y.item) && decide (x.maker = y.maker) && decide (x.tags = y.tags) && decide (x.score = y.score)
theorem eqB_iff (x y : Ch) : eqB x y = true ↔ x = y := by
  obtain ⟨a, b, c, d⟩ := x
  obtain ⟨a', b', c', d'⟩ := y
  simp [eqB, and_assoc]

/-- '==' of two choices. -/
@[go_sem high] theorem eq_ch (a b c : ByteArray) (s : Int) (a' b' c' : ByteArray) (s' : Int) (w : World) :
    (Op.equalIn 10000 32 (.agg #[.string a, .string b, .string c, .int .i64 s]) (.agg #[.string a', .string b', .string c', .int .i64 s'])).run Tryd.prog w = .ok (eqB ⟨a, b, c, s⟩ ⟨a', b', c', s'⟩) w := by
  have e : ∀ x y : ByteArray, (x.toList == y.toList) = decide (x = y) := fun x y => by
    by_cases h : x = y
    · subst h; simp
    · rw [Bool.eq_false_iff.2 (fun e => h ((beq_list x y).1 e))]; simp [h]
  by_cases h1 : a = a' <;> by_cases h2 : b = b' <;> by_cases h3 : c = c' <;> by_cases h4 : s = s' <;> simp [go_sem, e, eqB, h1, h2, h3, h4]

end Go.Proofs.YtiaklkfdgnhonaaDoor
