/- Arguments of the laws, opened: slices of rows. -/
import Derived.Test.YtikbckpphkpaiaaGreatDoorOpenE
namespace Go.Proofs.YtikbckpphkpaiaaGreatDoor
open Go.ChangeShapes Go.WideShapes Go.Deep
set_option linter.unusedVariables false

def RoWf (r : Ro) : Prop := (Lit.int .i64 r.price).wf = true ∧ (Lit.int .i64 r.stock).wf = true
set_option maxHeartbeats 1000000 in
set_option maxRecDepth 100000 in
theorem ros_of {H : Type} {enc : TypeId × Value → H} {w : World} {base : Nat} {spare : Nat → Bool} {held : Bool} {fuel : Nat} {a : Option Addr} {len cap : Nat} {x : DataW H × List MemPlace}
    (h : DataW.trod enc Tryz.prog w base spare held fuel 27 [.slice a len cap] = some x) (hw : ∀ n ∈ x.1.weights Tryz.prog 27, n ≤ reachBytes) :
    ∃ l : List Ro, RoArg w a len cap l ∧ (∀ y ∈ l, RoWf y) ∧ len ≤ cap := by
  rcases open_slice_fields Tryz.underlying27 Tryz.underlying55 (by kernel_rfl) (by kernel_rfl) h with ⟨hcs, _⟩ | ⟨ad, n, c, m, D, Pl, hcs, _, hl, hm, hmm, hx, hi⟩
  · simp at hcs
    obtain ⟨rfl, rfl, rfl⟩ := hcs
    exact ⟨[], ⟨rfl, RowIn.nil _ _ _ _, Nat.zero_le _, fun _ => rfl, fun y hy => (by cases hy)⟩, fun y hy => (by cases hy), Nat.le_refl _⟩
  · simp at hcs
    obtain ⟨rfl, rfl, rfl⟩ := hcs
    have hlm : len ≤ m := by rw [hmm]; split <;> omega
    have hbo : Tryz.prog.bytesOf 55 = 64 := by kernel_rfl
    have hlen : len ≤ 140737488355328 := by
      have h1 := hw ((len + (m - len)) * 64) (by rw [hx]; simp [DataW.weights, Tryz.underlying27, hbo])
      unfold reachBytes at h1
      omega
    obtain ⟨l, h1, h2⟩ := list_of (α := Ro) (p := fun i y => (∃ b off, some ad = some ⟨b, off, none⟩ ∧ b < w.heap.size ∧ ∀ (j : Nat) u, (roC y)[j]? = some u → w.cell? ⟨b, off + (i * 5 + j), none⟩ = some u) ∧ RoBd y ∧ RoWf y) len (fun i hil => by
      obtain ⟨ys, n', hD, _, hys, hf⟩ := hi i (by omega)
      obtain ⟨v0, y0, e0, g0, t0⟩ := hf 0 _ rfl
      obtain ⟨v1, y1, e1, g1, t1⟩ := hf 1 _ rfl
      obtain ⟨v2, y2, e2, g2, t2⟩ := hf 2 _ rfl
      obtain ⟨v3, y3, e3, g3, t3⟩ := hf 3 _ rfl
      obtain ⟨v4, y4, e4, g4, t4⟩ := hf 4 _ rfl
      obtain ⟨x0, hv0, hd0, _⟩ := DataW.trod_string Tryz.underlying9 t0
      obtain ⟨x1, hv1, hd1, _⟩ := DataW.trod_string Tryz.underlying9 t1
      obtain ⟨x2, hv2, hd2, _⟩ := DataW.trod_string Tryz.underlying9 t2
      obtain ⟨x3, hv3, _, hw3⟩ := DataW.trod_int Tryz.underlying3 t3
      obtain ⟨x4, hv4, _, hw4⟩ := DataW.trod_int Tryz.underlying3 t4
      simp at hv0 hv1 hv2 hv3 hv4
      subst hv0 hv1 hv2 hv3 hv4
      have hin : D i ∈ (List.range len).map D := List.mem_map.2 ⟨i, List.mem_range.2 hil, rfl⟩
      have hwD : ∀ k ∈ (D i).weights Tryz.prog 55, k ≤ reachBytes := fun k hk => hw k (by
        rw [hx]
        simp only [DataW.weights, Tryz.underlying27, List.mem_cons, List.mem_append]
        exact Or.inr (Or.inl (mem_weightsAll hk hin)))
      have hz : ∀ (j : Nat) (s : ByteArray) (z : DataW H × List MemPlace), ys[j]? = some z → z.1 = .lit (.string s.data.toList) → (j = 0 ∨ j = 1 ∨ j = 2) → s.size ≤ 281474976710656 := fun j s z hz hs hj => by
        have h3 := hwD s.data.toList.length (by
          rw [hD]
          simp only [DataW.weights, Tryz.underlying55]
          refine DataW.weights_mem_each (j := j) (t := 9) (d := z.1) ?_ (by simp [hz]) _ (by rw [hs]; simp [DataW.weights])
          rcases hj with rfl | rfl | rfl <;> rfl)
        have e : s.data.toList.length = s.size := by simp
        rw [e] at h3
        unfold reachBytes at h3
        omega
      obtain ⟨_, _, _, _, _, hf0⟩ := hi 0 (by omega)
      obtain ⟨u0, _, d0, _, _⟩ := hf0 0 _ rfl
      have hsp : ad.spot = none := World.cell?_spot (by simpa [Addr.add] using d0)
      obtain ⟨b, off, spot⟩ := ad
      have hs2 : spot = none := hsp
      subst hs2
      have e0' : w.cell? ((⟨b, off, none⟩ : Addr).add (i * 5 + 0)) = some (.string x0) := e0
      have e1' : w.cell? ((⟨b, off, none⟩ : Addr).add (i * 5 + 1)) = some (.string x1) := e1
      have e2' : w.cell? ((⟨b, off, none⟩ : Addr).add (i * 5 + 2)) = some (.string x2) := e2
      have e3' : w.cell? ((⟨b, off, none⟩ : Addr).add (i * 5 + 3)) = some (.int .i64 x3) := e3
      have e4' : w.cell? ((⟨b, off, none⟩ : Addr).add (i * 5 + 4)) = some (.int .i64 x4) := e4
      rw [add_none] at e0' e1' e2' e3' e4'
      refine ⟨⟨x0, x1, x2, x3, x4⟩, ⟨b, off, rfl, cell_lt (a := ⟨b, _, none⟩) e0', fun j u hu => ?_⟩, ⟨hz 0 x0 y0 g0 (by rw [hd0]) (by simp), hz 1 x1 y1 g1 (by rw [hd1]) (by simp), hz 2 x2 y2 g2 (by rw [hd2]) (by simp)⟩, ⟨hw3, hw4⟩⟩
      have hj : j = 0 ∨ j = 1 ∨ j = 2 ∨ j = 3 ∨ j = 4 := by
        have := (List.getElem?_eq_some_iff.1 hu).1
        rw [roC_len] at this
        omega
      rcases hj with rfl | rfl | rfl | rfl | rfl <;> simp [roC] at hu <;> subst hu
      · exact e0'
      · exact e1'
      · exact e2'
      · exact e3'
      · exact e4')
    refine ⟨l, ⟨h1, ?_, hlen, fun h => (by cases h), fun y hy => ?_⟩, fun y hy => ?_, hl⟩
    · refine ⟨by rw [flat_len roC 5 roC_len, h1], ?_⟩
      rcases Nat.eq_zero_or_pos l.length with h0 | h0
      · exact Or.inl (by omega)
      · obtain ⟨⟨b, off, hA, hb, _⟩, _⟩ := h2 0 (l[0]'h0) (List.getElem?_eq_getElem h0)
        refine Or.inr ⟨b, off, hA, hb, fun j u hu => ?_⟩
        have hj : j < l.length * 5 := by
          have := (List.getElem?_eq_some_iff.1 hu).1
          rwa [flat_len roC 5 roC_len] at this
        have hq : j / 5 < l.length := by omega
        obtain ⟨⟨b', off', hA', _, hc⟩, _⟩ := h2 (j / 5) (l[j / 5]'hq) (List.getElem?_eq_getElem hq)
        rw [hA] at hA'
        injection hA' with hA'
        injection hA' with hb' ho'
        subst hb' ho'
        have hg := flat_get roC 5 roC_len l (j / 5) (j % 5) _ (List.getElem?_eq_getElem hq) (by omega)
        rw [show j / 5 * 5 + j % 5 = j from by omega, hu] at hg
        have := hc (j % 5) u hg.symm
        rwa [show off + (j / 5 * 5 + j % 5) = off + j from by omega] at this
    · obtain ⟨i, hi'⟩ := List.mem_iff_getElem?.1 hy
      exact (h2 i y hi').2.1
    · obtain ⟨i, hi'⟩ := List.mem_iff_getElem?.1 hy
      exact (h2 i y hi').2.2
end Go.Proofs.YtikbckpphkpaiaaGreatDoor
