/- BasketBounds: plain; Buy of the document. -/
import Derived.Test.YtcgangmmehbdoaaDoorBkL
import Derived.Test.YtcgangmmehbdoaaDoorRMay
namespace Go.Proofs.YtcgangmmehbdoaaDoor
open Go.Shelf Go.RowKit Go.Maps
set_option linter.unusedVariables false

theorem beh_self (f : Bsk) (a : ByteArray) : behB f a a = false := by
  unfold behB
  cases f a <;> simp
theorem nC_self (B : List Bsk) (a : ByteArray) : nC B a a = 0 := by
  unfold nC
  rw [List.countP_eq_zero]
  intro f _
  rw [beh_self]
  simp
theorem beh_one (f : Bsk) (a b : ByteArray) : one (behB f a b) + one (behB f b a) ≤ one (f a).isSome ∧ one (behB f a b) + one (behB f b a) ≤ one (f b).isSome := by
  unfold behB
  cases ha : f a with
  | none => cases hb : f b <;> simp [one]
  | some x =>
    cases hb : f b with
    | none => simp [one]
    | some y =>
      simp only [one, Option.isSome_some, if_true, decide_eq_true_eq]
      split <;> split <;> omega
theorem nC_two (B : List Bsk) (a b : ByteArray) : nC B a b + nC B b a ≤ nS B a ∧ nC B a b + nC B b a ≤ nS B b := by
  refine snocInd (p := fun B => nC B a b + nC B b a ≤ nS B a ∧ nC B a b + nC B b a ≤ nS B b) B ⟨Nat.zero_le _, Nat.zero_le _⟩ (fun B f ih => ?_)
  rw [nC_snoc, nC_snoc, nS_snoc, nS_snoc]
  have := beh_one f a b
  omega
theorem iv_less {g g' : Int} (h : g ≤ g') (Ts : List Int) : (ivS g' Ts).done.length ≤ (ivS g Ts).done.length ∧ (ivS g' Ts).cur.map (·.2) = (ivS g Ts).cur.map (·.2) := by
  refine snocInd (p := fun Ts => (ivS g' Ts).done.length ≤ (ivS g Ts).done.length ∧ (ivS g' Ts).cur.map (·.2) = (ivS g Ts).cur.map (·.2)) Ts ⟨Nat.le_refl _, rfl⟩ (fun Ts t ih => ?_)
  rw [ivS_snoc, ivS_snoc]
  obtain ⟨h1, h2⟩ := ih
  unfold ivStep
  cases hc' : (ivS g' Ts).cur with
  | none =>
    rw [hc'] at h2
    cases hc : (ivS g Ts).cur with
    | none => exact ⟨h1, rfl⟩
    | some fu => rw [hc] at h2; cases h2
  | some fu' =>
    rw [hc'] at h2
    cases hc : (ivS g Ts).cur with
    | none => rw [hc] at h2; cases h2
    | some fu =>
      rw [hc] at h2
      obtain ⟨f, u⟩ := fu
      obtain ⟨f', u'⟩ := fu'
      simp only [Option.map_some, Option.some.injEq] at h2
      subst h2
      simp only
      split
      · rename_i h3
        rw [if_pos (by omega)]
        exact ⟨by simp only [List.length_append, List.length_singleton]; omega, rfl⟩
      · split
        · exact ⟨by simp only [List.length_append, List.length_singleton]; omega, rfl⟩
        · exact ⟨h1, rfl⟩
theorem ivs_less {g g' : Int} (h : g ≤ g') (Ts : List Int) : (ivs g' Ts).length ≤ (ivs g Ts).length := by
  obtain ⟨h1, h2⟩ := iv_less h Ts
  unfold ivs
  rw [List.length_append, List.length_append]
  have : (ivS g' Ts).cur.toList.length = (ivS g Ts).cur.toList.length := by
    cases hc' : (ivS g' Ts).cur <;> cases hc : (ivS g Ts).cur <;> rw [hc', hc] at h2 <;> first | rfl | cases h2
  omega
theorem BD_less {g g' : Int} (h : g ≤ g') (l : List Ev) (D : List ByteArray) : (BD g' l D).length ≤ (BD g l D).length := by
  unfold BD
  induction D with
  | nil => exact Nat.le_refl _
  | cons p D ih =>
    rw [List.flatMap_cons, List.flatMap_cons, List.length_append, List.length_append]
    have : (BL g' l p).length ≤ (BL g l p).length := by unfold BL; rw [List.length_map, List.length_map]; exact ivs_less h _
    omega
theorem iv_lone {g : Int} (Ts : List Int) (h : ∀ a ∈ Ts, ∀ b ∈ Ts, b - a ≤ g) : (ivS g Ts).done = [] ∧ ((ivS g Ts).cur = none ↔ Ts = []) ∧ ∀ f u, (ivS g Ts).cur = some (f, u) → u ∈ Ts := by
  revert h
  refine snocInd (p := fun Ts => (∀ a ∈ Ts, ∀ b ∈ Ts, b - a ≤ g) → (ivS g Ts).done = [] ∧ ((ivS g Ts).cur = none ↔ Ts = []) ∧ ∀ f u, (ivS g Ts).cur = some (f, u) → u ∈ Ts) Ts (fun _ => ⟨rfl, ⟨fun _ => rfl, fun _ => rfl⟩, fun f u h => (by cases h)⟩) (fun Ts t ih h => ?_)
  obtain ⟨h1, h2, h3⟩ := ih (fun a ha b hb => h a (List.mem_append.2 (Or.inl ha)) b (List.mem_append.2 (Or.inl hb)))
  rw [ivS_snoc]
  unfold ivStep
  cases hc : (ivS g Ts).cur with
  | none => exact ⟨h1, ⟨fun h => (by cases h), fun h => (by simp at h)⟩, fun f u h => by obtain ⟨_, rfl⟩ := Prod.mk.inj (Option.some.inj h); simp⟩
  | some fu =>
    obtain ⟨f, u⟩ := fu
    have := h u (List.mem_append.2 (Or.inl (h3 f u hc))) t (by simp)
    simp only
    rw [if_neg (by omega)]
    exact ⟨h1, ⟨fun h => (by cases h), fun h => (by simp at h)⟩, fun f u h => by obtain ⟨_, rfl⟩ := Prod.mk.inj (Option.some.inj h); simp⟩
theorem BL_lone {l : List Ev} {p : ByteArray} (hp : ∃ e ∈ l, buyB e = true ∧ e.person = p) : (BL 1099511627776 l p).length = 1 := by
  unfold BL
  rw [List.length_map]
  have ht : ∀ t ∈ tksP (ownB l p), 0 ≤ t ∧ t ≤ 1099511627776 := fun t ht => by
    obtain ⟨e, he, rfl⟩ := ((tks_is _).2 t).1 ht
    exact buy_tick (ownB_mem.1 he).2.1
  obtain ⟨h1, h2, _⟩ := iv_lone (g := 1099511627776) (tksP (ownB l p)) (fun a ha b hb => by have := ht a ha; have := ht b hb; omega)
  have hne : tksP (ownB l p) ≠ [] := fun h => by
    obtain ⟨e, he, h3, h4⟩ := hp
    have : e.tick ∈ tksP (ownB l p) := ((tks_is _).2 _).2 ⟨e, ownB_mem.2 ⟨he, h3, h4⟩, rfl⟩
    rw [h] at this
    cases this
  unfold ivs
  rw [h1]
  cases hc : (ivS 1099511627776 (tksP (ownB l p))).cur with
  | none => exact absurd (h2.1 hc) hne
  | some fu => rfl
theorem BD_lone {l : List Ev} {D : List ByteArray} (hD : ∀ p ∈ D, ∃ e ∈ l, buyB e = true ∧ e.person = p) : (BD 1099511627776 l D).length = D.length := by
  unfold BD
  induction D with
  | nil => rfl
  | cons p D ih =>
    rw [List.flatMap_cons, List.length_append, BL_lone (hD p (by simp)), ih (fun q hq => hD q (List.mem_cons_of_mem _ hq)), List.length_cons]
    omega

def okBool : Value → Bool
  | .bool _ => true
  | _ => false
def setG (ns : List ByteArray) : ByteArray → Option Value := fun n => if memB n ns then some (.bool true) else none
theorem ppl_next {l : List Ev} {x : Ev} {ns : List ByteArray} (h : IsPpl l ns) (hb : buyB x = true) : IsPpl (l ++ [x]) (if memB x.person ns then ns else ns ++ [x.person]) := by
  have hm : ∀ p, (∃ e ∈ l ++ [x], buyB e = true ∧ e.person = p) ↔ (∃ e ∈ l, buyB e = true ∧ e.person = p) ∨ p = x.person := fun p => by
    constructor
    · rintro ⟨e, he, h1, h2⟩
      rcases List.mem_append.1 he with he | he
      · exact Or.inl ⟨e, he, h1, h2⟩
      · simp at he; subst he; exact Or.inr h2.symm
    · rintro (⟨e, he, h1⟩ | rfl)
      · exact ⟨e, List.mem_append.2 (Or.inl he), h1⟩
      · exact ⟨x, by simp, hb, rfl⟩
  cases hq : memB x.person ns
  · have hn : x.person ∉ ns := fun e => by rw [(memB_iff _ _).2 e] at hq; cases hq
    refine ⟨?_, fun p => ?_⟩
    · simp only [Bool.false_eq_true, if_false]
      rw [List.nodup_append]
      exact ⟨h.1, by simp, fun a ha b hb e => hn (by simp at hb; rw [← hb, ← e]; exact ha)⟩
    · simp only [Bool.false_eq_true, if_false]
      rw [List.mem_append, h.2, hm, List.mem_singleton]
  · refine ⟨by simpa using h.1, fun p => ?_⟩
    simp only [if_true]
    rw [hm, h.2]
    constructor
    · exact Or.inl
    · rintro (h1 | rfl)
      · exact h1
      · exact (h.2 _).1 ((memB_iff _ _).1 hq)
theorem ppl_same {l : List Ev} {x : Ev} {ns : List ByteArray} (h : IsPpl l ns) (hb : buyB x = false) : IsPpl (l ++ [x]) ns := by
  refine ⟨h.1, fun p => ?_⟩
  rw [h.2]
  constructor
  · rintro ⟨e, he, h1⟩; exact ⟨e, List.mem_append.2 (Or.inl he), h1⟩
  · rintro ⟨e, he, h1, h2⟩
    rcases List.mem_append.1 he with he | he
    · exact ⟨e, he, h1, h2⟩
    · simp at he; subst he; rw [hb] at h1; cases h1
theorem setG_next (ns : List ByteArray) (p : ByteArray) : ∀ kl, upd (mapG (setG ns)) (.string p.data.toList) (.bool true) kl = mapG (setG (if memB p ns then ns else ns ++ [p])) kl := fun kl => by
  rw [mapG_upd]
  have : updG (setG ns) p (.bool true) = setG (if memB p ns then ns else ns ++ [p]) := by
    funext q
    unfold updG setG
    cases hq : memB p ns
    · simp only [Bool.false_eq_true, if_false]
      by_cases e : q = p
      · subst e
        have : memB q (ns ++ [q]) = true := (memB_iff _ _).2 (by simp)
        simp [this]
      · have : memB q (ns ++ [p]) = memB q ns := by
          rw [Bool.eq_iff_iff, memB_iff, memB_iff]; simp [e]
        simp [e, this]
    · simp only [if_true]
      by_cases e : q = p
      · subst e; simp [hq]
      · simp [e]
  rw [this]

theorem setZ {w : World} {b : Nat} {ns : List ByteArray} {p : ByteArray} (h : MapSz Tryd.prog 9 okBool w b (if (mapG (setG ns) (.string p.data.toList)).isSome then ns.length else ns.length + 1) (upd (mapG (setG ns)) (.string p.data.toList) (.bool true))) : MapSz Tryd.prog 9 okBool w b (if memB p ns then ns else ns ++ [p]).length (mapG (setG (if memB p ns then ns else ns ++ [p]))) := by
  have h1 := h.congr (setG_next ns p)
  have h2 : (mapG (setG ns) (.string p.data.toList)).isSome = memB p ns := by
    rw [mapG_at]
    unfold setG
    cases memB p ns <;> rfl
  have h3 : (if (mapG (setG ns) (.string p.data.toList)).isSome then ns.length else ns.length + 1) = (if memB p ns then ns else ns ++ [p]).length := by
    rw [h2]
    cases memB p ns <;> simp
  rw [h3] at h1
  exact h1
set_option maxHeartbeats 1000000 in
set_option maxRecDepth 100000 in
theorem rbuy_any (x : Ev) (w : World) (hs : EvSh x) :
    Calls Tryd.prog 16 #[evA x] w fun e w' => e = .returned (.bool (buyB x)) ∧ Below w.heap.size w w' := by
  have HC : Hid (buyB x = (mayB x && decide (x.kind = 3))) := Lib.hid rfl
  have HMY : Hid (∀ W, Calls Tryd.prog 31 #[evA x] W fun e w' => e = .returned (.bool (mayB x)) ∧ Below W.heap.size W w') := Lib.hid (fun W => rmay_any x W hs)
  generalize mayB x = mx at *
  generalize buyB x = cx at *
  obtain ⟨s0, n0, t0, k0, p0, i0, v0, x0⟩ := x
  unfold evA at HMY ⊢
  dsimp only at HMY HC ⊢
  obtain ⟨w1, hw1⟩ : ∃ w1, w.alloc (.cells #[.string s0, .int .i64 n0, .int .i64 t0, .int .i64 k0, .string p0, .string i0, .int .i64 v0, .string x0] 33) = w1 := ⟨_, rfl⟩
  have bl : Blk w1 w.heap.size 33 #[.string s0, .int .i64 n0, .int .i64 t0, .int .i64 k0, .string p0, .string i0, .int .i64 v0, .string x0] := by rw [← hw1]; exact Blk.new _ _ _
  have HB1 : Hid (Below w.heap.size w w1) := Lib.hid (by rw [← hw1]; exact (Below.refl _ _).alloc (Nat.le_refl _) _)
  have c0 : w1.cell? ⟨w.heap.size, 0, none⟩ = some (.string s0) := bl.cell 0
  have c1 : w1.cell? ⟨w.heap.size, 1, none⟩ = some (.int .i64 n0) := bl.cell 1
  have c2 : w1.cell? ⟨w.heap.size, 2, none⟩ = some (.int .i64 t0) := bl.cell 2
  have c3 : w1.cell? ⟨w.heap.size, 3, none⟩ = some (.int .i64 k0) := bl.cell 3
  have c4 : w1.cell? ⟨w.heap.size, 4, none⟩ = some (.string p0) := bl.cell 4
  have c5 : w1.cell? ⟨w.heap.size, 5, none⟩ = some (.string i0) := bl.cell 5
  have c6 : w1.cell? ⟨w.heap.size, 6, none⟩ = some (.int .i64 v0) := bl.cell 6
  have c7 : w1.cell? ⟨w.heap.size, 7, none⟩ = some (.string x0) := bl.cell 7
  have hl1 := bl.lt
  have HM1 := Lib.hid (HMY.out w1)
  clear bl HMY
  go_enter Tryd.func16, Tryd.ntmps16
  go_wp2_with fail
  refine HM1.out.mono ?_
  rintro e w2 ⟨rfl, hb2⟩
  have d3 : w2.cell? ⟨w.heap.size, 3, none⟩ = some (.int .i64 k0) := (hb2.cell (p := ⟨w.heap.size, 3, none⟩) hl1).trans c3
  have HB2 : Hid (Below w.heap.size w w2) := Lib.hid (HB1.out.trans (hb2.mono HB1.out.size))
  clear c0 c1 c2 c3 c4 c5 c6 c7 hw1 HM1 hb2 hl1 HB1
  cases mx
  · have HF : Hid (cx = false) := Lib.hid (by rw [HC.out]; rfl)
    clear HC
    go_wp2_with fail
    go_ret
    exact ⟨ret_bool HF.out.symm, HB2.out⟩
  by_cases q1 : k0 = 3
  · have HF : Hid (cx = true) := Lib.hid (by rw [HC.out, q1]; rfl)
    subst q1
    clear HC
    go_wp2_with fail
    go_ret
    exact ⟨ret_bool HF.out.symm, HB2.out⟩
  have e1 : (k0 == 3) = false := by rw [Bool.eq_false_iff]; intro e; exact q1 (beq_iff_eq.1 e)
  have HF : Hid (cx = false) := Lib.hid (by rw [HC.out]; simp [q1])
  clear HC q1
  go_wp2_with fail
  go_ret
  exact ⟨ret_bool HF.out.symm, HB2.out⟩

end Go.Proofs.YtcgangmmehbdoaaDoor
