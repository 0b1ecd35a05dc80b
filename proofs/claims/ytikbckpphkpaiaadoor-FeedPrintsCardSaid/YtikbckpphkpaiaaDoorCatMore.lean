/- A catalog in memory that has had one event more. -/
import Derived.Test.YtikbckpphkpaiaaDoorCatAt
namespace Go.Proofs.YtikbckpphkpaiaaDoor
open Go.Shelf Go.RowKit Go.Maps
set_option linter.unusedVariables false

/-- One event more. -/
theorem CatIn.more {w w' : World} {cb mb : Nat} {G : ByteArray → Option Value} {last x : Ev} {F : Nat → Prop} {es : List Ev} {A A' : Option Addr} {N cap c' : Nat} (h : CatIn w cb mb G last F es) (hC : Blk w' cb 74 (catCells true x mb))
    (hm : MapIs Tryd.prog 9 okSl w' mb (es.length + 1) (upd (mapG G) (.string x.item.data.toList) (.slice A' (N + 1) c'))) (hk : Kept (fun q => q = cb ∨ q = mb ∨ (Value.slice A N cap).ownBlock = some q) w w') (hG : (G x.item).getD (.slice none 0 0) = .slice A N cap) (hN : (rowOf es x.item).length = N)
    (ho : w'.ownsRow 0 78 9 (.slice A' (N + 1) c') (N + 1) ((rowOf es x.item).flatMap stC ++ stC (stepSt ((rowOf es x.item).getLast?.getD (st0 x.item)) x))) (hv : (Value.slice A' (N + 1) c').ownBlock = (Value.slice A N cap).ownBlock ∨ ∃ g, (Value.slice A' (N + 1) c').ownBlock = some g ∧ w.heap.size ≤ g) (ht : takesB es x = true) (hmc : mb ≠ cb) (hsx : EvSh x) :
    CatIn w' cb mb (updG G x.item (.slice A' (N + 1) c')) x (fun q => F q ∨ (Value.slice A' (N + 1) c').ownBlock = some q) (es ++ [x]) := by
  have hcl := h.lt _ h.fc
  have hml := h.lt _ h.fm
  have hrow : rowOf (es ++ [x]) x.item = rowOf es x.item ++ [stepSt ((rowOf es x.item).getLast?.getD (st0 x.item)) x] := by rw [rowOf_snoc, if_pos rfl]; rfl
  have hrow2 : ∀ n, n ≠ x.item → rowOf (es ++ [x]) n = rowOf es n := fun n hn => by rw [rowOf_snoc, if_neg (fun e => hn e.symm)]
  have hold : ∀ g, (Value.slice A N cap).ownBlock = some g → F g ∧ g ≠ cb ∧ g ≠ mb ∧ G x.item = some (.slice A N cap) := by
    intro g hg
    by_cases hr : rowOf es x.item = []
    · rw [h.none_ _ hr] at hG
      cases hG
      cases hg
    · obtain ⟨g', cap', e1, _, e2, e3, e4⟩ := h.some_ _ hr
      rw [e1] at hG
      have e5 : Value.slice (some ⟨g', 0, none⟩) (rowOf es x.item).length cap' = .slice A N cap := hG
      rw [← e5] at hg
      cases hg
      exact ⟨e2, e3, e4, by rw [e1, e5]⟩
  obtain ⟨gn, cn, hform, _, hlt⟩ := ho.form (Nat.succ_pos _)
  have hgn : (Value.slice A' (N + 1) c').ownBlock = some gn := by rw [hform]; rfl
  have hne : gn ≠ cb ∧ gn ≠ mb := by
    rcases hv with hv | ⟨g, hv, hg⟩
    · rw [hgn] at hv
      exact ⟨(hold gn hv.symm).2.1, (hold gn hv.symm).2.2.1⟩
    · rw [hgn] at hv
      cases hv
      exact ⟨by omega, by omega⟩
  refine ⟨?_, ?_, ?_, Or.inl h.fc, Or.inl h.fm, ?_, ?_, ?_, ?_, h.rise.snoc ht, ?_, ?_⟩
  · have : (!(es ++ [x]).isEmpty) = true := by simp
    rw [this]; exact hC
  · intro l hl
    rw [List.getLast?_concat] at hl
    cases hl; rfl
  · have := hm.congr (mapG_upd G x.item _)
    rw [List.length_append]
    exact this
  · rintro q (hq | hq)
    · exact Nat.lt_of_lt_of_le (h.lt q hq) hk.size
    · exact (ho.lt _ hq).2
  · intro n hn
    by_cases e : n = x.item
    · subst e; rw [hrow] at hn; simp at hn
    · rw [hrow2 n e] at hn
      unfold updG
      rw [if_neg e]
      exact h.none_ n hn
  · intro n hn
    by_cases e : n = x.item
    · subst e
      rw [hrow]
      have hl : (rowOf es x.item ++ [stepSt ((rowOf es x.item).getLast?.getD (st0 x.item)) x]).length = N + 1 := by simp [hN]
      rw [hl, List.flatMap_append]
      refine ⟨gn, cn, ?_, ?_, Or.inr hgn, hne.1, hne.2⟩
      · unfold updG; rw [if_pos rfl, hform]
      · rw [← hform]
        have : [stepSt ((rowOf es x.item).getLast?.getD (st0 x.item)) x].flatMap stC = stC (stepSt ((rowOf es x.item).getLast?.getD (st0 x.item)) x) := by simp
        rw [this]
        exact ho
    · rw [hrow2 n e] at hn ⊢
      obtain ⟨g, cap', e1, e2, e3, e4, e5⟩ := h.some_ n hn
      refine ⟨g, cap', ?_, owns_kept e2 hk (fun g' hg => ?_), Or.inl e3, e4, e5⟩
      · unfold updG; rw [if_neg e]; exact e1
      · cases hg
        rintro (hq | hq | hq)
        · exact e4 hq
        · exact e5 hq
        · exact h.apart n x.item _ _ e e1 (hold g hq).2.2.2 hq.symm
  · intro n n' v v' hnn hgv hgv'
    unfold updG at hgv hgv'
    have key : ∀ m u, m ≠ x.item → G m = some u → u.ownBlock ≠ (Value.slice A' (N + 1) c').ownBlock := by
      intro m u hm hu he
      by_cases hr : rowOf es m = []
      · rw [h.none_ _ hr] at hu; cases hu
      · obtain ⟨g, cap', e1, e2, e3, e4, e5⟩ := h.some_ m hr
        rw [e1] at hu
        cases hu
        rw [hgn] at he
        have hgg : g = gn := Option.some.inj (show some g = some gn from he)
        rcases hv with hv | ⟨g2, hv, hg2⟩
        · rw [hgn] at hv
          exact h.apart m x.item _ _ hm e1 (hold gn hv.symm).2.2.2 (he.trans hv)
        · rw [hgn] at hv
          have h2 : gn = g2 := Option.some.inj hv
          have := h.lt _ e3
          omega
    by_cases e : n = x.item
    · rw [if_pos e] at hgv
      cases hgv
      rw [if_neg (fun e' => hnn (e.trans e'.symm))] at hgv'
      exact (key n' v' (fun e' => hnn (e.trans e'.symm)) hgv').symm
    · rw [if_neg e] at hgv
      by_cases e' : n' = x.item
      · rw [if_pos e'] at hgv'
        cases hgv'
        exact key n v e hgv
      · rw [if_neg e'] at hgv'
        exact h.apart n n' v v' hnn hgv hgv'
  · intro e he
    rcases List.mem_append.1 he with he | he
    · exact h.may e he
    · obtain rfl : e = x := by simpa using he
      unfold takesB at ht
      rw [Bool.and_eq_true] at ht
      exact ht.1
  · intro e he
    rcases List.mem_append.1 he with he | he
    · exact h.sh e he
    · obtain rfl : e = x := by simpa using he
      exact hsx

end Go.Proofs.YtikbckpphkpaiaaDoor
