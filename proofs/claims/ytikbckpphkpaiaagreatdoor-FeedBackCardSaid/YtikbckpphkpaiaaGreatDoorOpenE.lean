/- Arguments of the laws, opened: slices of events. The variables that the rows list. -/
import Derived.Test.YtikbckpphkpaiaaGreatDoorFdLives
import Derived.Test.YtikbckpphkpaiaaGreatDoorRows
import Derived.Deep.Slices
import Derived.Deep.Fields
import Derived.ChangeSame
import Derived.ProofKit
import Derived.SizedLaws
import Derived.Lib.SmallJoins
namespace Go.Proofs.YtikbckpphkpaiaaGreatDoor
open Go.ChangeShapes Go.WideShapes Go.Deep
set_option linter.unusedVariables false

section
variable {H : Type} {enc : TypeId × Value → H} {P : Program} {w : World} {base : Nat} {spare : Nat → Bool} {held : Bool}
theorem open_slice_fields {t e : TypeId} {fs : Array Field} {fuel : Nat} {cs : List Value} {x : DataW H × List MemPlace} (ht : P.underlying t = some (.slice e)) (he : P.underlying e = some (.struct fs))
    (hone : oneCellFields P fs = true) (hC : P.cellsOf e = fs.size) (h : DataW.trod enc P w base spare held fuel t cs = some x) :
    (cs = [.slice none 0 0] ∧ x = (.nil, [])) ∨
    ∃ (a : Addr) (len cap m : Nat) (D : Nat → DataW H) (Pl : Nat → List MemPlace), cs = [.slice (some a) len cap] ∧ base ≤ a.block ∧ len ≤ cap ∧ cap ≤ maxLen ∧ m = (if spare a.block then cap else len) ∧
      x = (.slice ((List.range len).map D) ((List.range (m - len)).map fun j => D (len + j)), MemPlace.row a (m * fs.size) ++ (List.range m).flatMap Pl) ∧
      ∀ i, i < m → ∃ (ys : List (DataW H × List MemPlace)) (n : Nat), D i = .agg (ys.map (·.1)) ∧ Pl i = ys.flatMap (·.2) ∧ ys.length = fs.size ∧
        ∀ (j : Nat) (f : Field), fs[j]? = some f → ∃ (v : Value) (y : DataW H × List MemPlace), w.cell? (a.add (i * fs.size + j)) = some v ∧ ys[j]? = some y ∧ DataW.trod enc P w base spare held n f.type [v] = some y := by
  rcases open_slice ht h with h0 | ⟨a, len, cap, m, n, D, Pl, hcs, hb, hl, hm, hmm, hx, hi⟩
  · exact .inl h0
  · refine .inr ⟨a, len, cap, m, D, Pl, hcs, hb, hl, hm, hmm, by rw [hC] at hx; exact hx, fun i him => ?_⟩
    obtain ⟨cs', hc, ht'⟩ := hi i him
    rw [hC] at hc
    obtain ⟨ys, n', hn', hy, hlen, hyl, hf⟩ := DataW.trod_struct he ht'
    obtain ⟨_, hcl, hat⟩ := World.cells?_some hc
    simp only [Prod.mk.injEq] at hy
    refine ⟨ys, n', hy.1, hy.2, hyl, fun j f hj => ?_⟩
    obtain ⟨ho, hk⟩ := hone_of hone j f hj
    have hjl : j < fs.size := (Array.getElem?_eq_some_iff.1 hj).1
    have hcell := hat j hjl
    have hv : cs'[j]? = some (cs'[j]'(by omega)) := List.getElem?_eq_getElem (by omega)
    have h1 := hf j f hj
    rw [ho, hk] at h1
    have hone' : (cs'.drop j).take 1 = [cs'[j]'(by omega)] := by
      rw [List.drop_eq_getElem_cons (by omega)]
      rfl
    rw [hone'] at h1
    have hys : ys[j]? = some (ys[j]'(by omega)) := List.getElem?_eq_getElem (by omega)
    refine ⟨_, _, ?_, hys, h1.trans hys⟩
    rw [← Go.Deep.add_add, hcell, hv]
end

theorem cell_lt {w : World} {a : Addr} {v : Value} (h : w.cell? a = some v) : a.block < w.heap.size := by
  rcases Nat.lt_or_ge a.block w.heap.size with h1 | h1
  · exact h1
  · unfold World.cell? at h
    rw [Array.getElem?_eq_none h1] at h
    simp at h

theorem list_of {α : Type} {p : Nat → α → Prop} : ∀ (n : Nat), (∀ i, i < n → ∃ x, p i x) → ∃ l : List α, l.length = n ∧ ∀ i x, l[i]? = some x → p i x
  | 0, _ => ⟨[], rfl, fun i x h => by simp at h⟩
  | n + 1, h => by
    obtain ⟨l, hl, hp⟩ := list_of n (fun i hi => h i (by omega))
    obtain ⟨x, hx⟩ := h n (by omega)
    refine ⟨l ++ [x], by simp [hl], fun i y hy => ?_⟩
    rcases Nat.lt_or_ge i l.length with h1 | h1
    · rw [List.getElem?_append_left h1] at hy; exact hp i y hy
    · rw [List.getElem?_append_right h1] at hy
      have : i - l.length = 0 := by
        rcases Nat.eq_zero_or_pos (i - l.length) with h2 | h2
        · exact h2
        · rw [List.getElem?_eq_none (by simp; omega)] at hy; cases hy
      rw [this] at hy
      simp at hy
      subst hy
      rw [show i = n from by omega]
      exact hx

theorem add_none (b off k : Nat) : (⟨b, off, none⟩ : Addr).add k = ⟨b, off + k, none⟩ := by
  unfold Addr.add
  split
  · rename_i h; subst h; rfl
  · rfl


theorem mem_weightsAll {H : Type} {P : Program} {e : TypeId} {d : DataW H} {n : Nat} (hn : n ∈ d.weights P e) : ∀ {l : List (DataW H)}, d ∈ l → n ∈ DataW.weightsAll P e l
  | x :: l, h => by
    simp only [DataW.weightsAll, List.mem_append]
    rcases List.mem_cons.1 h with rfl | h
    · exact Or.inl hn
    · exact Or.inr (mem_weightsAll hn h)


/-- The numbers of an event are ints. -/
def EvWf (e : Ev) : Prop := (Lit.int .i64 e.num).wf = true ∧ (Lit.int .i64 e.tick).wf = true ∧ (Lit.int .i64 e.kind).wf = true ∧ (Lit.int .i64 e.value).wf = true
set_option maxHeartbeats 1000000 in
set_option maxRecDepth 100000 in
theorem evs_of {H : Type} {enc : TypeId × Value → H} {w : World} {base : Nat} {spare : Nat → Bool} {held : Bool} {fuel : Nat} {a : Option Addr} {len cap : Nat} {x : DataW H × List MemPlace}
    (h : DataW.trod enc Tryz.prog w base spare held fuel 41 [.slice a len cap] = some x) (hw : ∀ n ∈ x.1.weights Tryz.prog 41, n ≤ reachBytes) :
    ∃ l : List Ev, l.length = len ∧ len ≤ 140737488355328 ∧ EvsAt w w.heap.size a l ∧ (a = none → cap = 0) ∧ (∀ y ∈ l, EvBd y) ∧ ∀ y ∈ l, EvWf y := by
  rcases open_slice_fields Tryz.underlying41 Tryz.underlying45 (by kernel_rfl) (by kernel_rfl) h with ⟨hcs, _⟩ | ⟨ad, n, c, m, D, Pl, hcs, _, hl, hm, hmm, hx, hi⟩
  · simp at hcs
    obtain ⟨rfl, rfl, rfl⟩ := hcs
    exact ⟨[], rfl, Nat.zero_le _, RowIn.nil _ _ _ _, fun _ => rfl, fun y hy => (by cases hy), fun y hy => (by cases hy)⟩
  · simp at hcs
    obtain ⟨rfl, rfl, rfl⟩ := hcs
    have hlm : len ≤ m := by rw [hmm]; split <;> omega
    have hbo : Tryz.prog.bytesOf 45 = 96 := by kernel_rfl
    have hlen : len ≤ 140737488355328 := by
      have h1 := hw ((len + (m - len)) * 96) (by rw [hx]; simp [DataW.weights, Tryz.underlying41, hbo])
      unfold reachBytes at h1
      omega
    obtain ⟨l, h1, h2⟩ := list_of (α := Ev) (p := fun i y => (∃ b off, some ad = some ⟨b, off, none⟩ ∧ b < w.heap.size ∧ EvAt w b (off + i * 8) y) ∧ EvBd y ∧ EvWf y) len (fun i hil => by
      obtain ⟨ys, n', hD, _, hys, hf⟩ := hi i (by omega)
      obtain ⟨v0, y0, e0, g0, t0⟩ := hf 0 _ rfl
      obtain ⟨v1, y1, e1, g1, t1⟩ := hf 1 _ rfl
      obtain ⟨v2, y2, e2, g2, t2⟩ := hf 2 _ rfl
      obtain ⟨v3, y3, e3, g3, t3⟩ := hf 3 _ rfl
      obtain ⟨v4, y4, e4, g4, t4⟩ := hf 4 _ rfl
      obtain ⟨v5, y5, e5, g5, t5⟩ := hf 5 _ rfl
      obtain ⟨v6, y6, e6, g6, t6⟩ := hf 6 _ rfl
      obtain ⟨v7, y7, e7, g7, t7⟩ := hf 7 _ rfl
      obtain ⟨x0, hv0, hd0, _⟩ := DataW.trod_string Tryz.underlying9 t0
      obtain ⟨x1, hv1, _, hw1⟩ := DataW.trod_int Tryz.underlying3 t1
      obtain ⟨x2, hv2, _, hw2⟩ := DataW.trod_int Tryz.underlying3 t2
      obtain ⟨x3, hv3, _, hw3⟩ := DataW.trod_int Tryz.underlying43 t3
      obtain ⟨x4, hv4, hd4, _⟩ := DataW.trod_string Tryz.underlying9 t4
      obtain ⟨x5, hv5, hd5, _⟩ := DataW.trod_string Tryz.underlying9 t5
      obtain ⟨x6, hv6, _, hw6⟩ := DataW.trod_int Tryz.underlying3 t6
      obtain ⟨x7, hv7, hd7, _⟩ := DataW.trod_string Tryz.underlying9 t7
      simp at hv0 hv1 hv2 hv3 hv4 hv5 hv6 hv7
      subst hv0 hv1 hv2 hv3 hv4 hv5 hv6 hv7
      have hin : D i ∈ (List.range len).map D := List.mem_map.2 ⟨i, List.mem_range.2 hil, rfl⟩
      have hwD : ∀ k ∈ (D i).weights Tryz.prog 45, k ≤ reachBytes := fun k hk => hw k (by
        rw [hx]
        simp only [DataW.weights, Tryz.underlying41, List.mem_cons, List.mem_append]
        exact Or.inr (Or.inl (mem_weightsAll hk hin)))
      have hz : ∀ (j : Nat) (s : ByteArray) (z : DataW H × List MemPlace), ys[j]? = some z → z.1 = .lit (.string s.data.toList) → (j = 0 ∨ j = 4 ∨ j = 5 ∨ j = 7) → s.size ≤ 281474976710656 := fun j s z hz hs hj => by
        have h3 := hwD s.data.toList.length (by
          rw [hD]
          simp only [DataW.weights, Tryz.underlying45]
          refine DataW.weights_mem_each (j := j) (t := 9) (d := z.1) ?_ (by simp [hz]) _ (by rw [hs]; simp [DataW.weights])
          rcases hj with rfl | rfl | rfl | rfl <;> rfl)
        have e : s.data.toList.length = s.size := by simp
        rw [e] at h3
        unfold reachBytes at h3
        omega
      obtain ⟨_, _, _, _, _, hf0⟩ := hi 0 (by omega)
      obtain ⟨u0, _, d0, _, _⟩ := hf0 0 _ rfl
      have hsp : ad.spot = none := World.cell?_spot (by simpa [Addr.add] using d0)
      obtain ⟨b, off, spot⟩ := ad
      have hs2 : spot = none := hsp
      subst hs2
      have e0' : w.cell? ((⟨b, off, none⟩ : Addr).add (i * 8 + 0)) = some (.string x0) := e0
      have e1' : w.cell? ((⟨b, off, none⟩ : Addr).add (i * 8 + 1)) = some (.int .i64 x1) := e1
      have e2' : w.cell? ((⟨b, off, none⟩ : Addr).add (i * 8 + 2)) = some (.int .i64 x2) := e2
      have e3' : w.cell? ((⟨b, off, none⟩ : Addr).add (i * 8 + 3)) = some (.int .i64 x3) := e3
      have e4' : w.cell? ((⟨b, off, none⟩ : Addr).add (i * 8 + 4)) = some (.string x4) := e4
      have e5' : w.cell? ((⟨b, off, none⟩ : Addr).add (i * 8 + 5)) = some (.string x5) := e5
      have e6' : w.cell? ((⟨b, off, none⟩ : Addr).add (i * 8 + 6)) = some (.int .i64 x6) := e6
      have e7' : w.cell? ((⟨b, off, none⟩ : Addr).add (i * 8 + 7)) = some (.string x7) := e7
      rw [add_none] at e0' e1' e2' e3' e4' e5' e6' e7'
      refine ⟨⟨x0, x1, x2, x3, x4, x5, x6, x7⟩, ⟨b, off, rfl, cell_lt (a := ⟨b, _, none⟩) e0', by simpa using e0', ?_, ?_, ?_, ?_, ?_, ?_, ?_⟩, ⟨hz 0 x0 y0 g0 (by rw [hd0]) (by simp), hz 4 x4 y4 g4 (by rw [hd4]) (by simp), hz 5 x5 y5 g5 (by rw [hd5]) (by simp), hz 7 x7 y7 g7 (by rw [hd7]) (by simp)⟩, ⟨hw1, hw2, hw3, hw6⟩⟩
      · rw [Nat.add_assoc]; exact e1'
      · rw [Nat.add_assoc]; exact e2'
      · rw [Nat.add_assoc]; exact e3'
      · rw [Nat.add_assoc]; exact e4'
      · rw [Nat.add_assoc]; exact e5'
      · rw [Nat.add_assoc]; exact e6'
      · rw [Nat.add_assoc]; exact e7')
    refine ⟨l, h1, hlen, ?_, fun h => (by cases h), fun y hy => ?_, fun y hy => ?_⟩
    · refine ⟨by rw [flat_len evC 8 evC_len, h1], ?_⟩
      rcases Nat.eq_zero_or_pos l.length with h0 | h0
      · exact Or.inl h0
      · obtain ⟨⟨b, off, hA, hb, _⟩, _⟩ := h2 0 (l[0]'h0) (List.getElem?_eq_getElem h0)
        refine Or.inr ⟨b, off, hA, hb, fun j u hu => ?_⟩
        have hj : j < l.length * 8 := by
          have := (List.getElem?_eq_some_iff.1 hu).1
          rwa [flat_len evC 8 evC_len] at this
        have hq : j / 8 < l.length := by omega
        obtain ⟨⟨b', off', hA', _, hc⟩, _⟩ := h2 (j / 8) (l[j / 8]'hq) (List.getElem?_eq_getElem hq)
        rw [hA] at hA'
        injection hA' with hA'
        injection hA' with hb' ho'
        subst hb' ho'
        have hg := flat_get evC 8 evC_len l (j / 8) (j % 8) _ (List.getElem?_eq_getElem hq) (by omega)
        rw [show j / 8 * 8 + j % 8 = j from by omega, hu] at hg
        obtain ⟨c0, c1, c2, c3, c4, c5, c6, c7⟩ := hc
        have h4 : j % 8 = 0 ∨ j % 8 = 1 ∨ j % 8 = 2 ∨ j % 8 = 3 ∨ j % 8 = 4 ∨ j % 8 = 5 ∨ j % 8 = 6 ∨ j % 8 = 7 := by omega
        rcases h4 with h4 | h4 | h4 | h4 | h4 | h4 | h4 | h4 <;> rw [h4] at hg <;> simp [evC] at hg <;> subst hg
        · rw [show off + j = off + j / 8 * 8 from by omega]; exact c0
        · rw [show off + j = off + j / 8 * 8 + 1 from by omega]; exact c1
        · rw [show off + j = off + j / 8 * 8 + 2 from by omega]; exact c2
        · rw [show off + j = off + j / 8 * 8 + 3 from by omega]; exact c3
        · rw [show off + j = off + j / 8 * 8 + 4 from by omega]; exact c4
        · rw [show off + j = off + j / 8 * 8 + 5 from by omega]; exact c5
        · rw [show off + j = off + j / 8 * 8 + 6 from by omega]; exact c6
        · rw [show off + j = off + j / 8 * 8 + 7 from by omega]; exact c7
    · obtain ⟨i, hi'⟩ := List.mem_iff_getElem?.1 hy
      exact (h2 i y hi').2.1
    · obtain ⟨i, hi'⟩ := List.mem_iff_getElem?.1 hy
      exact (h2 i y hi').2.2

/-- internal/bytealg.MaxLen holds an int, whatever it is. -/
theorem glob_of {W : World} (h : W.ShapedOpen Tryz.prog) : GlobAt W := by
  obtain ⟨m, hm⟩ := Tryz.laysSplit.s1_3 W h
  exact ⟨cell_lt (a := ⟨0, 0, none⟩) hm, m, hm⟩

end Go.Proofs.YtikbckpphkpaiaaGreatDoor
