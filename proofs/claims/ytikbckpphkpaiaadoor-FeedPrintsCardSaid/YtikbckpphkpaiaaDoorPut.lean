/- The document's put: a name into rising ones, once. -/
import Derived.Test.YtikbckpphkpaiaaDoorTexts
import Derived.Test.YtikbckpphkpaiaaDoorWhich
import Derived.Deep.RegionHeld3
namespace Go.Proofs.YtikbckpphkpaiaaDoor
open Go.Shelf Go.RowKit Go.Maps
set_option linter.unusedVariables false

/-- A name put into rising ones. -/
def putP : List ByteArray → ByteArray → List ByteArray
  | [], s => [s]
  | x :: l, s => if x = s then x :: l else if Op.bytesLess x.toList s.toList then x :: putP l s else s :: x :: l
theorem putP_mem (l : List ByteArray) (s n : ByteArray) : n ∈ putP l s ↔ n ∈ l ∨ n = s := by
  induction l with
  | nil => simp [putP]
  | cons x l ih =>
    unfold putP
    split
    · rename_i h
      subst h
      constructor
      · exact Or.inl
      · rintro (h | h)
        · exact h
        · rw [h]; simp
    · split
      · rw [List.mem_cons, ih, List.mem_cons, or_assoc]
      · rw [List.mem_cons, or_comm]
theorem putP_rise {l : List ByteArray} (h : l.Pairwise ltN) (s : ByteArray) : (putP l s).Pairwise ltN := by
  induction l with
  | nil => exact List.pairwise_singleton _ _
  | cons x l ih =>
    obtain ⟨h1, h2⟩ := List.pairwise_cons.1 h
    unfold putP
    split
    · exact h
    · rename_i hne
      split
      · rename_i hlt
        rw [List.pairwise_cons]
        refine ⟨fun y hy => ?_, ih h2⟩
        rcases (putP_mem l s y).1 hy with hy | rfl
        · exact h1 y hy
        · exact (less_iff x y).1 hlt
      · rename_i hlt
        have hsx : ltN s x := ltN_of (fun e => hlt ((less_iff x s).2 e)) hne
        rw [List.pairwise_cons]
        refine ⟨fun y hy => ?_, h⟩
        rcases List.mem_cons.1 hy with rfl | hy
        · exact hsx
        · exact ltN_trans hsx (h1 y hy)
/-- Where the name goes. -/
theorem putP_at : ∀ (l : List ByteArray) (s : ByteArray) (k : Nat), k ≤ l.length → (∀ j x, j < k → l[j]? = some x → ltN x s) → (∀ x, l[k]? = some x → ¬ ltN x s) → putP l s = if l[k]? = some s then l else l.take k ++ (s :: l.drop k)
  | [], s, k, hk, _, _ => by
    obtain rfl : k = 0 := by simpa using hk
    simp [putP]
  | x :: l, s, 0, _, _, h2 => by
    have hx := h2 x rfl
    unfold putP
    by_cases he : x = s
    · simp [he]
    · have hl : Op.bytesLess x.toList s.toList = false := by
        rw [Bool.eq_false_iff]; exact fun e => hx ((less_iff x s).1 e)
      simp [he, hl]
  | x :: l, s, k + 1, hk, h1, h2 => by
    have hx := h1 0 x (by omega) rfl
    have ih := putP_at l s k (by simpa using hk) (fun j y hj hy => h1 (j + 1) y (by omega) (by simpa using hy)) (fun y hy => h2 y (by simpa using hy))
    have he : x ≠ s := fun e => by subst e; exact ltN_irr _ hx
    have hl : Op.bytesLess x.toList s.toList = true := (less_iff x s).2 hx
    unfold putP
    rw [if_neg he, if_pos hl, ih]
    simp only [List.getElem?_cons_succ, List.take_succ_cons, List.drop_succ_cons, List.cons_append]
    split <;> rfl

/-! ### the walk -/
theorem own_empty (w : World) (e : TypeId) (size : Nat) : (w.alloc (.cells #[] e)).ownsRow w.heap.size e size (.slice (some ⟨w.heap.size, 0, none⟩) 0 0) 0 [] :=
  ⟨by simp, Or.inr ⟨w.heap.size, 0, #[], rfl, Nat.le_refl _, heap_alloc_new w _, Nat.le_refl _, Nat.zero_le _, by simp, by simp⟩⟩
theorem own_mono {w : World} {base base' e size n : Nat} {v : Value} {xs : List Value} (h : w.ownsRow base e size v n xs) (hb : base' ≤ base) : w.ownsRow base' e size v n xs := by
  refine ⟨h.1, h.2.elim Or.inl fun ⟨g, cap, cur, h1, h2, h3⟩ => Or.inr ⟨g, cap, cur, h1, by omega, h3⟩⟩
theorem bel1 {w7 wa w1 : World} {r1 : Option Nat} (ha : Below w7.heap.size w7 wa) (hg1 : wa.grownBy w1 r1) (h1 : ∀ j, r1 = some j → w7.heap.size ≤ j) : Below w7.heap.size w7 w1 :=
  ((⟨ha.os, ha.tape, ha.output, ha.size, fun i hi _ => ha.block i hi⟩ : Kept (fun q => w7.heap.size ≤ q) w7 wa).grown hg1 (fun j hj => Or.inl (h1 j hj))).toBelow (fun i hi => hi) (Nat.le_refl _)
theorem row_grown {w w' : World} {B size n b : Nat} {xs : List Value} {row : Option Nat} (h : RowIn w B size (some ⟨b, 0, none⟩) n xs) (hb : b < w.heap.size) (hne : some b ≠ row) (hg : w.grownBy w' row) : RowIn w' B size (some ⟨b, 0, none⟩) n xs := by
  refine ⟨h.1, h.2.elim Or.inl fun hx => Or.inr ?_⟩
  obtain ⟨b', off, e, hb', hc⟩ := hx
  injection e with e
  injection e with e1 e2
  subst e1 e2
  exact ⟨b, 0, rfl, hb', fun j u hu => (World.cell?_of_block (hg.block b hb hne)).trans (hc j u hu)⟩
theorem below_drew {B : Nat} {w w' : World} (h : Below B w w') : Below B w w'.drew := ⟨h.os, h.tape, h.output, h.size, h.block⟩
theorem strs_one (l : List ByteArray) : ∀ u ∈ l.map Value.string, u.oneCell' = true := fun u hu => by
  obtain ⟨x, _, rfl⟩ := List.mem_map.1 hu
  rfl

set_option maxHeartbeats 4000000 in
set_option maxRecDepth 100000 in
theorem put_any (w : World) (A : Option Addr) (l : List ByteArray) (n c : Nat) (s : ByteArray) (base : Nat) (hn : l.length = n) (hown : w.ownsRow base 9 1 (.slice A n c) n (l.map .string)) (hbase : base ≤ w.heap.size) (hb : n ≤ 1000000) :
    Calls Tryd.prog 55 #[.slice A n c, .string s] w fun e w' => ∃ A' c', e = .returned (.slice A' (putP l s).length c') ∧ w'.ownsRow base 9 1 (.slice A' (putP l s).length c') (putP l s).length ((putP l s).map .string) ∧ Below w.heap.size w w' := by
  have hl : RowIn w w.heap.size 1 A n (l.map .string) := RowIn.of_own hown
  have hcn : n ≤ c ∧ (A = none → c = 0) := by
    rcases hown.2 with ⟨h, h0⟩ | ⟨g9, cap9, cur9, h, _, _, h4, _⟩
    · injection h with h1 h2 h3
      exact ⟨by omega, fun _ => h3⟩
    · injection h with h1 _ h3
      refine ⟨by rw [h3]; exact h4, fun h => ?_⟩
      rw [h] at h1
      cases h1
  obtain ⟨hc, hnil⟩ := hcn
  have HOW := Lib.hid hown
  obtain ⟨i0, hi0, hz0, hz1, hz2⟩ := info_parts str_info
  have HN := Lib.hid hn
  have HL := Lib.hid hl
  have HNIL := Lib.hid hnil
  clear hn hl hnil hown
  go_enter Tryd.func55, Tryd.ntmps55
  go_wp2_with fail
  go_loopw [5] (fun i wr => ∃ k : Nat, k ≤ n ∧ i = .int .i64 k ∧ Hid (∀ j x, j < k → l[j]? = some x → ltN x s) ∧ wr = w) (fun i _ => n - (intOf i).toNat)
  case atStart => exact ⟨0, Nat.zero_le _, rfl, Lib.hid (fun j x hj => by omega), rfl⟩
  case round =>
    obtain ⟨k, hk, rfl, hlo, rfl⟩ := hrel
    obtain ⟨w, rfl⟩ : ∃ w : World, w = wr := ⟨_, rfl⟩
    have HFIN : Hid ((∀ x, l[k]? = some x → ¬ ltN x s) → l[k]? ≠ some s → putP l s = l.take k ++ (s :: l.drop k)) := Lib.hid (fun h1 h2 => by rw [putP_at l s k (by rw [HN.out]; exact hk) hlo.out h1, if_neg h2])
    have HSAM : Hid (l[k]? = some s → putP l s = l) := Lib.hid (fun h2 => by rw [putP_at l s k (by rw [HN.out]; exact hk) hlo.out (fun x hx e => by rw [h2] at hx; cases hx; exact ltN_irr _ e), if_pos h2])
    have REST : Hid (l[k]? ≠ some s → (∀ x, l[k]? = some x → ¬ ltN x s) → (putP l s).length = 0 + k + 1 + (n - k) ∧ (putP l s).map Value.string = [] ++ (l.take k).map .string ++ [.string s] ++ (l.drop k).map .string) := Lib.hid (fun h1 h2 => by
      rw [HFIN.out h2 h1]
      constructor
      · simp [HN.out]; omega
      · simp)
    have HR1 : Hid (RowIn w w.heap.size 1 A k ((l.take k).map .string)) := Lib.hid (by have := HL.out.front hk; rw [Nat.mul_one, ← List.map_take] at this; exact this)
    have HR2 : Hid (RowIn w w.heap.size 1 (if c = k then A else A.map (·.add k)) (n - k) ((l.drop k).map .string)) := Lib.hid (by have := HL.out.cut hk hc; simp only [Nat.mul_one, ← List.map_drop] at this; exact this)
    have HNI2 : Hid ((if c = k then A else A.map (·.add k)) = none → c - k = 0) := Lib.hid (fun h => by
      split at h
      · omega
      · have : A = none := by simpa using h
        have := HNIL.out this
        omega)
    have HRE : Hid (∀ o : Obj, RowIn (w.alloc o) w.heap.size 1 A k ((l.take k).map .string)) := Lib.hid (fun o => RowIn.alloc HR1.out (Nat.le_refl _) _)
    have HRN : Hid (∀ o o2 : Obj, RowIn ((w.alloc o).alloc o2) w.heap.size 1 A k ((l.take k).map .string)) := Lib.hid (fun o o2 => RowIn.alloc (RowIn.alloc HR1.out (Nat.le_refl _) _) (by simp) _)
    have HOA := Lib.hid (own_empty w 9 1)
    have HOC : Hid (∀ o : Obj, ((w.alloc o).alloc (.cells #[] 9)).ownsRow w.heap.size 9 1 (.slice (some ⟨w.heap.size + 1, 0, none⟩) 0 0) 0 []) := Lib.hid (fun o => by
      have := own_empty (w.alloc o) 9 1
      rw [show (w.alloc o).heap.size = w.heap.size + 1 from by simp] at this
      exact own_mono this (by omega))
    have H1B : Hid (RowIn ((w.alloc (.cells #[] 9)).alloc (.cells #[.string s] 9)) (w.heap.size + 2) 1 (some ⟨w.heap.size + 1, 0, none⟩) 1 [.string s]) := Lib.hid (by
      have := one_str (w.alloc (.cells #[] 9)) s 9
      rw [show (w.alloc (.cells #[] 9)).heap.size = w.heap.size + 1 from by simp] at this
      exact this)
    have H1C : Hid (RowIn ((w.alloc (.cells #[.string s] 9)).alloc (.cells #[] 9)) (w.heap.size + 1) 1 (some ⟨w.heap.size, 0, none⟩) 1 [.string s]) := Lib.hid (RowIn.alloc (one_str w s 9) (by simp) _)
    have HBA : Hid (∀ o : Obj, Below w.heap.size w (w.alloc o).drew) := Lib.hid (fun o => below_drew ((Below.refl _ _).alloc (Nat.le_refl _) _))
    have HBA0 : Hid (∀ o : Obj, Below w.heap.size w (w.alloc o)) := Lib.hid (fun o => (Below.refl _ _).alloc (Nat.le_refl _) _)
    have HBB : Hid (∀ o o2 : Obj, Below w.heap.size w ((w.alloc o).alloc o2).drew) := Lib.hid (fun o o2 => below_drew (((Below.refl _ _).alloc (Nat.le_refl _) _).alloc (by simp) _))
    have HBB0 : Hid (∀ o o2 : Obj, Below w.heap.size w ((w.alloc o).alloc o2)) := Lib.hid (fun o o2 => ((Below.refl _ _).alloc (Nat.le_refl _) _).alloc (by simp) _)
    have HBX : Hid (∀ (W : World) (o : Obj), Below w.heap.size w W → Below w.heap.size w (W.alloc o)) := Lib.hid (fun W o h => h.alloc h.size _)
    have HON1 := Lib.hid (strs_one (l.take k))
    have HON2 := Lib.hid (strs_one (l.drop k))
    have HONX : Hid (∀ u ∈ [Value.string s], u.oneCell' = true) := Lib.hid (fun u hu => by simp at hu; subst hu; rfl)
    have P1 : Hid (0 + k ≤ maxLen) := Lib.hid (by unfold maxLen; omega)
    have P2 : Hid ((0 + k) * 16 ≤ 140737488355328) := Lib.hid (by omega)
    have P3 : Hid (0 + k + 1 ≤ maxLen) := Lib.hid (by unfold maxLen; omega)
    have P4 : Hid ((0 + k + 1) * 16 ≤ 140737488355328) := Lib.hid (by omega)
    have P5 : Hid (0 + k + 1 + (n - k) ≤ maxLen) := Lib.hid (by unfold maxLen; omega)
    have P6 : Hid ((0 + k + 1 + (n - k)) * 16 ≤ 140737488355328) := Lib.hid (by omega)
    have hk9 : (0 : Int) ≤ (k : Int) := by omega
    have hk7 : (k : Int) ≤ (n : Int) := by omega
    have hk6 : (k : Int) ≤ (c : Int) := by omega
    have hk5 : (n : Int) ≤ (c : Int) := by omega
    by_cases hlt : k < n
    · obtain ⟨x, hx⟩ : ∃ x, l[k]? = some x := ⟨l[k]'(by rw [HN.out]; exact hlt), List.getElem?_eq_getElem _⟩
      have HX := Lib.hid hx
      have hk8 : (k : Int) < (n : Int) := by omega
      obtain ⟨g, o, hA, _, hcl⟩ := HL.out.at (by omega)
      have e0 : w.cell? ⟨g, o + k, none⟩ = some (.string x) := hcl k _ (by simp [hx])
      subst hA
      have HM2 : (Option.map (fun x : Addr => x.add k) (some ⟨g, o, none⟩)) = some ⟨g, o + k, none⟩ := by simp [at_add]
      rw [HM2] at HR2 HNI2
      clear hcl hx HM2
      cases hq : Op.bytesLess x.toList s.toList
      · have HQ : Hid (∀ y, l[k]? = some y → ¬ ltN y s) := Lib.hid (fun y hy e => by rw [HX.out] at hy; cases hy; rw [(less_iff _ _).2 e] at hq; cases hq)
        by_cases he : x = s
        · have q1 : (x.toList == s.toList) = true := (beq_list x s).2 he
          have HPP : Hid (putP l s = l) := Lib.hid (HSAM.out (by rw [HX.out, he]))
          clear he
          go_wp2_with fail
          go_ret
          refine ⟨some ⟨g, o, none⟩, c, ?_, ?_, Below.refl _ _⟩
          · rw [HPP.out, HN.out]; rfl
          · rw [HPP.out, HN.out]; exact HOW.out
        · have q1 : (x.toList == s.toList) = false := Bool.eq_false_iff.2 (fun e => he ((beq_list x s).1 e))
          have HRS := Lib.hid (REST.out (by rw [HX.out]; exact fun e => he (Option.some.inj e)) HQ.out)
          clear he
          go_wp2_with fail
          go_region_held3 (fun W => True)
            (first | trivial)
            (first
              | (refine step_append_row _ (by rfl) (.tmp 33) (.tmp 36) 39 (by rfl) w.heap.size 9 i0 _ 1 16 Tryd.underlying39 hi0 hz0 hz1 hz2 rfl (by decide) (.slice (some ⟨w.heap.size, 0, none⟩) 0 0) 0 [] (by rfl) HOA.out w.heap.size (some ⟨g, o, none⟩) k c _ (by rfl) (HRE.out _) HNIL.out HON1.out P1.out P2.out (by simp <;> omega) ?_; intro v1 wx ho1 hg1 hv1; have b1 : Below w.heap.size w wx := bel1 (by first | exact HBA.out _ | exact HBA0.out _ | exact HBB.out _ _ | exact HBB0.out _ _ | exact b1 | exact HBX.out _ _ b1 | exact b2 | exact HBX.out _ _ b2) hg1 (fun j hj => by first | exact (ho1.lt _ hj).1 | exact (ho2.lt _ hj).1 | (cases hj; exact Nat.le_refl _) | (cases hj; exact Nat.le_succ _)))
              | (refine step_append_row _ (by rfl) (.tmp 33) (.tmp 36) 39 (by rfl) w.heap.size 9 i0 _ 1 16 Tryd.underlying39 hi0 hz0 hz1 hz2 rfl (by decide) (.slice (some ⟨w.heap.size, 0, none⟩) 0 0) 0 [] (by rfl) (HOA.out.alloc _) w.heap.size (some ⟨g, o, none⟩) k c _ (by rfl) (HRN.out _ _) HNIL.out HON1.out P1.out P2.out (by simp <;> omega) ?_; intro v1 wx ho1 hg1 hv1; have b1 : Below w.heap.size w wx := bel1 (by first | exact HBA.out _ | exact HBA0.out _ | exact HBB.out _ _ | exact HBB0.out _ _ | exact b1 | exact HBX.out _ _ b1 | exact b2 | exact HBX.out _ _ b2) hg1 (fun j hj => by first | exact (ho1.lt _ hj).1 | exact (ho2.lt _ hj).1 | (cases hj; exact Nat.le_refl _) | (cases hj; exact Nat.le_succ _)))
              | (refine step_append_row _ (by rfl) (.tmp 33) (.tmp 36) 39 (by rfl) w.heap.size 9 i0 _ 1 16 Tryd.underlying39 hi0 hz0 hz1 hz2 rfl (by decide) (.slice (some ⟨w.heap.size + 1, 0, none⟩) 0 0) 0 [] (by rfl) (HOC.out _) w.heap.size (some ⟨g, o, none⟩) k c _ (by rfl) (HRN.out _ _) HNIL.out HON1.out P1.out P2.out (by simp <;> omega) ?_; intro v1 wx ho1 hg1 hv1; have b1 : Below w.heap.size w wx := bel1 (by first | exact HBA.out _ | exact HBA0.out _ | exact HBB.out _ _ | exact HBB0.out _ _ | exact b1 | exact HBX.out _ _ b1 | exact b2 | exact HBX.out _ _ b2) hg1 (fun j hj => by first | exact (ho1.lt _ hj).1 | exact (ho2.lt _ hj).1 | (cases hj; exact Nat.le_refl _) | (cases hj; exact Nat.le_succ _)))
              | (refine step_append_row _ (by rfl) (.tmp 37) (.tmp 39) 39 (by rfl) w.heap.size 9 i0 _ 1 16 Tryd.underlying39 hi0 hz0 hz1 hz2 rfl (by decide) v1 (0 + k) ([] ++ (l.take k).map .string) (by rfl) (ho1.alloc _) (wx.heap.size + 1) (some ⟨wx.heap.size, 0, none⟩) 1 1 [.string s] (by rfl) (one_str wx s _) (fun h => by cases h) HONX.out P3.out P4.out (Nat.le_trans b1.size (by simp)) ?_; intro v2 wy ho2 hg2 hv2; have b2 : Below w.heap.size w wy := bel1 (by first | exact HBA.out _ | exact HBA0.out _ | exact HBB.out _ _ | exact HBB0.out _ _ | exact b1 | exact HBX.out _ _ b1 | exact b2 | exact HBX.out _ _ b2) hg2 (fun j hj => by first | exact (ho1.lt _ hj).1 | exact (ho2.lt _ hj).1 | (cases hj; exact Nat.le_refl _) | (cases hj; exact Nat.le_succ _)))
              | (refine step_append_row _ (by rfl) (.tmp 37) (.tmp 39) 39 (by rfl) w.heap.size 9 i0 _ 1 16 Tryd.underlying39 hi0 hz0 hz1 hz2 rfl (by decide) v1 (0 + k) ([] ++ (l.take k).map .string) (by rfl) ho1 (w.heap.size + 2) (some ⟨w.heap.size + 1, 0, none⟩) 1 1 [.string s] (by rfl) (row_grown (RowIn.drew H1B.out) (by simp <;> omega) (by simp [Value.ownBlock] <;> omega) hg1) (fun h => by cases h) HONX.out P3.out P4.out (Nat.le_trans b1.size (by simp)) ?_; intro v2 wy ho2 hg2 hv2; have b2 : Below w.heap.size w wy := bel1 (by first | exact HBA.out _ | exact HBA0.out _ | exact HBB.out _ _ | exact HBB0.out _ _ | exact b1 | exact HBX.out _ _ b1 | exact b2 | exact HBX.out _ _ b2) hg2 (fun j hj => by first | exact (ho1.lt _ hj).1 | exact (ho2.lt _ hj).1 | (cases hj; exact Nat.le_refl _) | (cases hj; exact Nat.le_succ _)))
              | (refine step_append_row _ (by rfl) (.tmp 37) (.tmp 39) 39 (by rfl) w.heap.size 9 i0 _ 1 16 Tryd.underlying39 hi0 hz0 hz1 hz2 rfl (by decide) v1 (0 + k) ([] ++ (l.take k).map .string) (by rfl) ho1 (w.heap.size + 1) (some ⟨w.heap.size, 0, none⟩) 1 1 [.string s] (by rfl) (row_grown (RowIn.drew H1C.out) (by simp <;> omega) (by simp [Value.ownBlock] <;> omega) hg1) (fun h => by cases h) HONX.out P3.out P4.out (Nat.le_trans b1.size (by simp)) ?_; intro v2 wy ho2 hg2 hv2; have b2 : Below w.heap.size w wy := bel1 (by first | exact HBA.out _ | exact HBA0.out _ | exact HBB.out _ _ | exact HBB0.out _ _ | exact b1 | exact HBX.out _ _ b1 | exact b2 | exact HBX.out _ _ b2) hg2 (fun j hj => by first | exact (ho1.lt _ hj).1 | exact (ho2.lt _ hj).1 | (cases hj; exact Nat.le_refl _) | (cases hj; exact Nat.le_succ _)))
              | (refine step_append_row _ (by rfl) (.tmp 40) (.tmp 43) 39 (by rfl) w.heap.size 9 i0 _ 1 16 Tryd.underlying39 hi0 hz0 hz1 hz2 rfl (by decide) v2 (0 + k + 1) ([] ++ (l.take k).map .string ++ [.string s]) (by rfl) ho2 w.heap.size (if c = k then some ⟨g, o, none⟩ else some ⟨g, o + k, none⟩) (n - k) (c - k) _ (by rfl) (HR2.out.below b2) HNI2.out HON2.out P5.out P6.out b2.size ?_; intro v3 wz ho3 hg3 hv3; have b3 : Below w.heap.size w wz := bel1 b2 hg3 (fun j hj => (ho2.lt _ hj).1)))
          all_goals
            go_wp2_with fail
          all_goals
            obtain ⟨A9, c9, hr9⟩ := own_shape ho3
            subst hr9
            go_ret
            obtain ⟨r1, r2⟩ := HRS.out
            refine ⟨A9, c9, ?_, ?_, b3⟩
            · rw [r1]; rfl
            · rw [r1, r2]; exact own_mono ho3 hbase
      · have HQ : Hid (ltN x s) := Lib.hid ((less_iff _ _).1 hq)
        go_wp2_with fail
        go_roundw
        case rel =>
          refine ⟨k + 1, by omega, by go_num, Lib.hid (fun j y hj hy => ?_), by first | rfl | trivial⟩
          by_cases e : j = k
          · subst e
            rw [HX.out] at hy
            cases hy
            exact HQ.out
          · exact hlo.out j y (by omega) hy
        case measure => simp [intOf]; omega
    · have HNO : Hid (l[k]? = none) := Lib.hid (List.getElem?_eq_none (by rw [HN.out]; omega))
      have HRS := Lib.hid (REST.out (by rw [HNO.out]; simp) (fun x hx => by rw [HNO.out] at hx; cases hx))
      go_wp2_with fail
      go_region_held3 (fun W => True)
        (first | trivial)
        (first
          | (refine step_append_row _ (by rfl) (.tmp 33) (.tmp 36) 39 (by rfl) w.heap.size 9 i0 _ 1 16 Tryd.underlying39 hi0 hz0 hz1 hz2 rfl (by decide) (.slice (some ⟨w.heap.size, 0, none⟩) 0 0) 0 [] (by rfl) HOA.out w.heap.size (A) k c _ (by rfl) (HRE.out _) HNIL.out HON1.out P1.out P2.out (by simp <;> omega) ?_; intro v1 wx ho1 hg1 hv1; have b1 : Below w.heap.size w wx := bel1 (by first | exact HBA.out _ | exact HBA0.out _ | exact HBB.out _ _ | exact HBB0.out _ _ | exact b1 | exact HBX.out _ _ b1 | exact b2 | exact HBX.out _ _ b2) hg1 (fun j hj => by first | exact (ho1.lt _ hj).1 | exact (ho2.lt _ hj).1 | (cases hj; exact Nat.le_refl _) | (cases hj; exact Nat.le_succ _)))
          | (refine step_append_row _ (by rfl) (.tmp 33) (.tmp 36) 39 (by rfl) w.heap.size 9 i0 _ 1 16 Tryd.underlying39 hi0 hz0 hz1 hz2 rfl (by decide) (.slice (some ⟨w.heap.size, 0, none⟩) 0 0) 0 [] (by rfl) (HOA.out.alloc _) w.heap.size (A) k c _ (by rfl) (HRN.out _ _) HNIL.out HON1.out P1.out P2.out (by simp <;> omega) ?_; intro v1 wx ho1 hg1 hv1; have b1 : Below w.heap.size w wx := bel1 (by first | exact HBA.out _ | exact HBA0.out _ | exact HBB.out _ _ | exact HBB0.out _ _ | exact b1 | exact HBX.out _ _ b1 | exact b2 | exact HBX.out _ _ b2) hg1 (fun j hj => by first | exact (ho1.lt _ hj).1 | exact (ho2.lt _ hj).1 | (cases hj; exact Nat.le_refl _) | (cases hj; exact Nat.le_succ _)))
          | (refine step_append_row _ (by rfl) (.tmp 33) (.tmp 36) 39 (by rfl) w.heap.size 9 i0 _ 1 16 Tryd.underlying39 hi0 hz0 hz1 hz2 rfl (by decide) (.slice (some ⟨w.heap.size + 1, 0, none⟩) 0 0) 0 [] (by rfl) (HOC.out _) w.heap.size (A) k c _ (by rfl) (HRN.out _ _) HNIL.out HON1.out P1.out P2.out (by simp <;> omega) ?_; intro v1 wx ho1 hg1 hv1; have b1 : Below w.heap.size w wx := bel1 (by first | exact HBA.out _ | exact HBA0.out _ | exact HBB.out _ _ | exact HBB0.out _ _ | exact b1 | exact HBX.out _ _ b1 | exact b2 | exact HBX.out _ _ b2) hg1 (fun j hj => by first | exact (ho1.lt _ hj).1 | exact (ho2.lt _ hj).1 | (cases hj; exact Nat.le_refl _) | (cases hj; exact Nat.le_succ _)))
          | (refine step_append_row _ (by rfl) (.tmp 37) (.tmp 39) 39 (by rfl) w.heap.size 9 i0 _ 1 16 Tryd.underlying39 hi0 hz0 hz1 hz2 rfl (by decide) v1 (0 + k) ([] ++ (l.take k).map .string) (by rfl) (ho1.alloc _) (wx.heap.size + 1) (some ⟨wx.heap.size, 0, none⟩) 1 1 [.string s] (by rfl) (one_str wx s _) (fun h => by cases h) HONX.out P3.out P4.out (Nat.le_trans b1.size (by simp)) ?_; intro v2 wy ho2 hg2 hv2; have b2 : Below w.heap.size w wy := bel1 (by first | exact HBA.out _ | exact HBA0.out _ | exact HBB.out _ _ | exact HBB0.out _ _ | exact b1 | exact HBX.out _ _ b1 | exact b2 | exact HBX.out _ _ b2) hg2 (fun j hj => by first | exact (ho1.lt _ hj).1 | exact (ho2.lt _ hj).1 | (cases hj; exact Nat.le_refl _) | (cases hj; exact Nat.le_succ _)))
          | (refine step_append_row _ (by rfl) (.tmp 37) (.tmp 39) 39 (by rfl) w.heap.size 9 i0 _ 1 16 Tryd.underlying39 hi0 hz0 hz1 hz2 rfl (by decide) v1 (0 + k) ([] ++ (l.take k).map .string) (by rfl) ho1 (w.heap.size + 2) (some ⟨w.heap.size + 1, 0, none⟩) 1 1 [.string s] (by rfl) (row_grown (RowIn.drew H1B.out) (by simp <;> omega) (by simp [Value.ownBlock] <;> omega) hg1) (fun h => by cases h) HONX.out P3.out P4.out (Nat.le_trans b1.size (by simp)) ?_; intro v2 wy ho2 hg2 hv2; have b2 : Below w.heap.size w wy := bel1 (by first | exact HBA.out _ | exact HBA0.out _ | exact HBB.out _ _ | exact HBB0.out _ _ | exact b1 | exact HBX.out _ _ b1 | exact b2 | exact HBX.out _ _ b2) hg2 (fun j hj => by first | exact (ho1.lt _ hj).1 | exact (ho2.lt _ hj).1 | (cases hj; exact Nat.le_refl _) | (cases hj; exact Nat.le_succ _)))
          | (refine step_append_row _ (by rfl) (.tmp 37) (.tmp 39) 39 (by rfl) w.heap.size 9 i0 _ 1 16 Tryd.underlying39 hi0 hz0 hz1 hz2 rfl (by decide) v1 (0 + k) ([] ++ (l.take k).map .string) (by rfl) ho1 (w.heap.size + 1) (some ⟨w.heap.size, 0, none⟩) 1 1 [.string s] (by rfl) (row_grown (RowIn.drew H1C.out) (by simp <;> omega) (by simp [Value.ownBlock] <;> omega) hg1) (fun h => by cases h) HONX.out P3.out P4.out (Nat.le_trans b1.size (by simp)) ?_; intro v2 wy ho2 hg2 hv2; have b2 : Below w.heap.size w wy := bel1 (by first | exact HBA.out _ | exact HBA0.out _ | exact HBB.out _ _ | exact HBB0.out _ _ | exact b1 | exact HBX.out _ _ b1 | exact b2 | exact HBX.out _ _ b2) hg2 (fun j hj => by first | exact (ho1.lt _ hj).1 | exact (ho2.lt _ hj).1 | (cases hj; exact Nat.le_refl _) | (cases hj; exact Nat.le_succ _)))
          | (refine step_append_row _ (by rfl) (.tmp 40) (.tmp 43) 39 (by rfl) w.heap.size 9 i0 _ 1 16 Tryd.underlying39 hi0 hz0 hz1 hz2 rfl (by decide) v2 (0 + k + 1) ([] ++ (l.take k).map .string ++ [.string s]) (by rfl) ho2 w.heap.size (if c = k then A else A.map (·.add k)) (n - k) (c - k) _ (by rfl) (HR2.out.below b2) HNI2.out HON2.out P5.out P6.out b2.size ?_; intro v3 wz ho3 hg3 hv3; have b3 : Below w.heap.size w wz := bel1 b2 hg3 (fun j hj => (ho2.lt _ hj).1)))
      all_goals
        go_wp2_with fail
      all_goals
        obtain ⟨A9, c9, hr9⟩ := own_shape ho3
        subst hr9
        go_ret
        obtain ⟨r1, r2⟩ := HRS.out
        refine ⟨A9, c9, ?_, ?_, b3⟩
        · rw [r1]; rfl
        · rw [r1, r2]; exact own_mono ho3 hbase

end Go.Proofs.YtikbckpphkpaiaaDoor
