/- Arguments of the laws, opened: rows of events with tags. -/
import Derived.Test.YtnkglbiakjnfjaaDoorCrL
import Derived.Test.YtnkglbiakjnfjaaDoorRows
import Derived.Deep.Slices
import Derived.Deep.Fields
import Derived.ChangeSame
import Derived.ProofKit
import Derived.SizedLaws
import Derived.SliceStrings
import Derived.Lib.SmallJoins
namespace Go.Proofs.YtnkglbiakjnfjaaDoor
open Go.ChangeShapes Go.WideShapes Go.Deep
set_option linter.unusedVariables false

theorem cell_lt {w : World} {a : Addr} {v : Value} (h : w.cell? a = some v) : a.block < w.heap.size := by
  rcases Nat.lt_or_ge a.block w.heap.size with h1 | h1
  · exact h1
  · unfold World.cell? at h
    rw [Array.getElem?_eq_none h1] at h
    simp at h
theorem list_of {α : Type} {p : Nat → α → Prop} : ∀ (n : Nat), (∀ i, i < n → ∃ x, p i x) → ∃ l : List α, l.length = n ∧ ∀ i x, l[i]? = some x → p i x
  | 0, _ => ⟨[], rfl, fun i x h => by simp at h⟩
  | n + 1, h => by
    obtain ⟨l, hl, hp⟩ := list_of n (fun i hi => h i (by omega))
    obtain ⟨x, hx⟩ := h n (by omega)
    refine ⟨l ++ [x], by simp [hl], fun i y hy => ?_⟩
    rcases Nat.lt_or_ge i l.length with h1 | h1
    · rw [List.getElem?_append_left h1] at hy; exact hp i y hy
    · rw [List.getElem?_append_right h1] at hy
      have : i - l.length = 0 := by
        rcases Nat.eq_zero_or_pos (i - l.length) with h2 | h2
        · exact h2
        · rw [List.getElem?_eq_none (by simp; omega)] at hy; cases hy
      rw [this] at hy
      simp at hy
      subst hy
      rw [show i = n from by omega]
      exact hx
theorem add_none (b off k : Nat) : (⟨b, off, none⟩ : Addr).add k = ⟨b, off + k, none⟩ := by
  unfold Addr.add
  split
  · rename_i h; subst h; rfl
  · rfl
theorem mem_weightsAll {H : Type} {P : Program} {e : TypeId} {d : DataW H} {n : Nat} (hn : n ∈ d.weights P e) : ∀ {l : List (DataW H)}, d ∈ l → n ∈ DataW.weightsAll P e l
  | x :: l, h => by
    simp only [DataW.weightsAll, List.mem_append]
    rcases List.mem_cons.1 h with rfl | h
    · exact Or.inl hn
    · exact Or.inr (mem_weightsAll hn h)
def EvWf (e : Ev) : Prop := (Lit.int .i64 e.num).wf = true ∧ (Lit.int .i64 e.tick).wf = true ∧ (Lit.int .i64 e.kind).wf = true ∧ (Lit.int .i64 e.value).wf = true

set_option maxHeartbeats 2000000 in
set_option maxRecDepth 100000 in
/-- An event, read. -/
theorem ev_of {H : Type} {enc : TypeId × Value → H} {w : World} {base : Nat} {spare : Nat → Bool} {held : Bool} {fuel : Nat} {a0 a1 a2 a3 a4 a5 a6 a7 : Value} {x : DataW H × List MemPlace}
    (h : DataW.trod enc Tryd.prog w base spare held fuel 40 [a0, a1, a2, a3, a4, a5, a6, a7] = some x) (hw : ∀ n ∈ x.1.weights Tryd.prog 40, n ≤ reachBytes) :
    ∃ e : Ev, [a0, a1, a2, a3, a4, a5, a6, a7] = evC e ∧ EvBd e := by
  obtain ⟨ys, n', _, hy, _, hyl, hf⟩ := DataW.trod_struct Tryd.underlying40 h
  have hyl8 : ys.length = 8 := hyl
  have t0 : DataW.trod enc Tryd.prog w base spare held n' 9 (([a0, a1, a2, a3, a4, a5, a6, a7].drop 0).take (Tryd.prog.cellsOf 9)) = ys[0]? := hf 0 _ rfl
  rw [show Tryd.prog.cellsOf 9 = 1 from by kernel_rfl] at t0
  simp only [List.drop_zero, List.take_succ_cons, List.take_zero] at t0
  have g0 : ys[0]? = some (ys[0]'(by omega)) := List.getElem?_eq_getElem (by omega)
  rw [g0] at t0
  have t1 : DataW.trod enc Tryd.prog w base spare held n' 3 (([a0, a1, a2, a3, a4, a5, a6, a7].drop 1).take (Tryd.prog.cellsOf 3)) = ys[1]? := hf 1 _ rfl
  rw [show Tryd.prog.cellsOf 3 = 1 from by kernel_rfl] at t1
  simp only [List.drop_succ_cons, List.drop_zero, List.take_succ_cons, List.take_zero] at t1
  have g1 : ys[1]? = some (ys[1]'(by omega)) := List.getElem?_eq_getElem (by omega)
  rw [g1] at t1
  have t2 : DataW.trod enc Tryd.prog w base spare held n' 3 (([a0, a1, a2, a3, a4, a5, a6, a7].drop 2).take (Tryd.prog.cellsOf 3)) = ys[2]? := hf 2 _ rfl
  rw [show Tryd.prog.cellsOf 3 = 1 from by kernel_rfl] at t2
  simp only [List.drop_succ_cons, List.drop_zero, List.take_succ_cons, List.take_zero] at t2
  have g2 : ys[2]? = some (ys[2]'(by omega)) := List.getElem?_eq_getElem (by omega)
  rw [g2] at t2
  have t3 : DataW.trod enc Tryd.prog w base spare held n' 38 (([a0, a1, a2, a3, a4, a5, a6, a7].drop 3).take (Tryd.prog.cellsOf 38)) = ys[3]? := hf 3 _ rfl
  rw [show Tryd.prog.cellsOf 38 = 1 from by kernel_rfl] at t3
  simp only [List.drop_succ_cons, List.drop_zero, List.take_succ_cons, List.take_zero] at t3
  have g3 : ys[3]? = some (ys[3]'(by omega)) := List.getElem?_eq_getElem (by omega)
  rw [g3] at t3
  have t4 : DataW.trod enc Tryd.prog w base spare held n' 9 (([a0, a1, a2, a3, a4, a5, a6, a7].drop 4).take (Tryd.prog.cellsOf 9)) = ys[4]? := hf 4 _ rfl
  rw [show Tryd.prog.cellsOf 9 = 1 from by kernel_rfl] at t4
  simp only [List.drop_succ_cons, List.drop_zero, List.take_succ_cons, List.take_zero] at t4
  have g4 : ys[4]? = some (ys[4]'(by omega)) := List.getElem?_eq_getElem (by omega)
  rw [g4] at t4
  have t5 : DataW.trod enc Tryd.prog w base spare held n' 9 (([a0, a1, a2, a3, a4, a5, a6, a7].drop 5).take (Tryd.prog.cellsOf 9)) = ys[5]? := hf 5 _ rfl
  rw [show Tryd.prog.cellsOf 9 = 1 from by kernel_rfl] at t5
  simp only [List.drop_succ_cons, List.drop_zero, List.take_succ_cons, List.take_zero] at t5
  have g5 : ys[5]? = some (ys[5]'(by omega)) := List.getElem?_eq_getElem (by omega)
  rw [g5] at t5
  have t6 : DataW.trod enc Tryd.prog w base spare held n' 3 (([a0, a1, a2, a3, a4, a5, a6, a7].drop 6).take (Tryd.prog.cellsOf 3)) = ys[6]? := hf 6 _ rfl
  rw [show Tryd.prog.cellsOf 3 = 1 from by kernel_rfl] at t6
  simp only [List.drop_succ_cons, List.drop_zero, List.take_succ_cons, List.take_zero] at t6
  have g6 : ys[6]? = some (ys[6]'(by omega)) := List.getElem?_eq_getElem (by omega)
  rw [g6] at t6
  have t7 : DataW.trod enc Tryd.prog w base spare held n' 9 (([a0, a1, a2, a3, a4, a5, a6, a7].drop 7).take (Tryd.prog.cellsOf 9)) = ys[7]? := hf 7 _ rfl
  rw [show Tryd.prog.cellsOf 9 = 1 from by kernel_rfl] at t7
  simp only [List.drop_succ_cons, List.drop_zero, List.take_succ_cons, List.take_zero] at t7
  have g7 : ys[7]? = some (ys[7]'(by omega)) := List.getElem?_eq_getElem (by omega)
  rw [g7] at t7
  obtain ⟨x0, hv0, hd0, _⟩ := DataW.trod_string Tryd.underlying9 t0
  obtain ⟨x1, hv1, _, _⟩ := DataW.trod_int Tryd.underlying3 t1
  obtain ⟨x2, hv2, _, _⟩ := DataW.trod_int Tryd.underlying3 t2
  obtain ⟨x3, hv3, _, _⟩ := DataW.trod_int Tryd.underlying38 t3
  obtain ⟨x4, hv4, hd4, _⟩ := DataW.trod_string Tryd.underlying9 t4
  obtain ⟨x5, hv5, hd5, _⟩ := DataW.trod_string Tryd.underlying9 t5
  obtain ⟨x6, hv6, _, _⟩ := DataW.trod_int Tryd.underlying3 t6
  obtain ⟨x7, hv7, hd7, _⟩ := DataW.trod_string Tryd.underlying9 t7
  simp at hv0 hv1 hv2 hv3 hv4 hv5 hv6 hv7
  subst hv0 hv1 hv2 hv3 hv4 hv5 hv6 hv7
  have hz : ∀ (j : Nat) (s : ByteArray) (z : DataW H × List MemPlace), ys[j]? = some z → z.1 = .lit (.string s.data.toList) → (j = 0 ∨ j = 4 ∨ j = 5 ∨ j = 7) → s.size ≤ 281474976710656 := fun j s z hz hs hj => by
    have h3 := hw s.data.toList.length (by
      rw [hy]
      simp only [DataW.weights, Tryd.underlying40]
      refine DataW.weights_mem_each (j := j) (t := 9) (d := z.1) ?_ (by simp [hz]) _ (by rw [hs]; simp [DataW.weights])
      rcases hj with rfl | rfl | rfl | rfl <;> rfl)
    have e : s.data.toList.length = s.size := by simp
    rw [e] at h3
    unfold reachBytes at h3
    omega
  exact ⟨⟨x0, x1, x2, x3, x4, x5, x6, x7⟩, rfl, hz 0 x0 _ g0 (by rw [hd0]) (by simp), hz 4 x4 _ g4 (by rw [hd4]) (by simp), hz 5 x5 _ g5 (by rw [hd5]) (by simp), hz 7 x7 _ g7 (by rw [hd7]) (by simp)⟩

set_option maxHeartbeats 2000000 in
set_option maxRecDepth 100000 in
/-- Rows, read. -/
theorem rws_of {H : Type} {enc : TypeId × Value → H} {w : World} {base : Nat} {spare : Nat → Bool} {held : Bool} {fuel : Nat} {a : Option Addr} {len cap : Nat} {x : DataW H × List MemPlace}
    (h : DataW.trod enc Tryd.prog w base spare held fuel 22 [.slice a len cap] = some x) (hw : ∀ n ∈ x.1.weights Tryd.prog 22, n ≤ reachBytes) :
    ∃ l : List Ri, RwArg w a len cap l := by
  rcases open_slice Tryd.underlying22 h with ⟨hcs, _⟩ | ⟨ad, n, c, m, n0, D, Pl, hcs, _, hl, hm, hmm, hx, hi⟩
  · simp at hcs
    obtain ⟨rfl, rfl, rfl⟩ := hcs
    exact ⟨[], rfl, RowIn.nil _ _ _ _, Nat.zero_le _, fun _ => rfl, fun y hy => (by cases hy)⟩
  · simp at hcs
    obtain ⟨rfl, rfl, rfl⟩ := hcs
    have hlm : len ≤ m := by rw [hmm]; split <;> omega
    have hbo : Tryd.prog.bytesOf 51 = 120 := by kernel_rfl
    have hC : Tryd.prog.cellsOf 51 = 9 := by kernel_rfl
    have hlen : len ≤ 140737488355328 := by
      have h1 := hw ((len + (m - len)) * 120) (by rw [hx]; simp [DataW.weights, Tryd.underlying22, hbo])
      unfold reachBytes at h1
      omega
    obtain ⟨l, h1, h2⟩ := list_of (α := Ri) (p := fun i y => (∃ b off, some ad = some ⟨b, off, none⟩ ∧ b < w.heap.size ∧ RdAt w b (off + i * 9) y.1) ∧ RiOk w y) len (fun i hil => by
      obtain ⟨cs', hc, ht'⟩ := hi i (by omega)
      rw [hC] at hc
      obtain ⟨_, hcl, hat⟩ := World.cells?_some hc
      obtain ⟨y0, y1, n1, hD, _, k0, k1⟩ := trod_struct2 Tryd.underlying51 ht'
      simp only [Prod.mk.injEq] at hD
      rw [show Tryd.prog.cellsOf 40 = 8 from by kernel_rfl] at k0
      rw [show Tryd.prog.cellsOf 41 = 1 from by kernel_rfl] at k1
      rcases cs' with _ | ⟨a0, cs'⟩
      · simp at hcl
      rcases cs' with _ | ⟨a1, cs'⟩
      · simp at hcl
      rcases cs' with _ | ⟨a2, cs'⟩
      · simp at hcl
      rcases cs' with _ | ⟨a3, cs'⟩
      · simp at hcl
      rcases cs' with _ | ⟨a4, cs'⟩
      · simp at hcl
      rcases cs' with _ | ⟨a5, cs'⟩
      · simp at hcl
      rcases cs' with _ | ⟨a6, cs'⟩
      · simp at hcl
      rcases cs' with _ | ⟨a7, cs'⟩
      · simp at hcl
      rcases cs' with _ | ⟨a8, cs'⟩
      · simp at hcl
      have hcs0 : cs' = [] := List.eq_nil_of_length_eq_zero (by simpa using hcl)
      subst hcs0
      simp only [List.drop_succ_cons, List.drop_zero, List.take_succ_cons, List.take_zero] at k0 k1
      have hin : D i ∈ (List.range len).map D := List.mem_map.2 ⟨i, List.mem_range.2 hil, rfl⟩
      have hwD : ∀ k ∈ (D i).weights Tryd.prog 51, k ≤ reachBytes := fun k hk => hw k (by
        rw [hx]
        simp only [DataW.weights, Tryd.underlying22, List.mem_cons, List.mem_append]
        exact Or.inr (Or.inl (mem_weightsAll hk hin)))
      obtain ⟨e, he, hbd⟩ := ev_of k0 (fun k hk => hwD k (by
        rw [hD.1]
        simp only [DataW.weights, Tryd.underlying51]
        exact DataW.weights_mem_each (j := 0) (t := 40) (d := y0.1) rfl rfl _ hk))
      simp only [evC, List.cons.injEq, and_true] at he
      obtain ⟨rfl, rfl, rfl, rfl, rfl, rfl, rfl, rfl⟩ := he
      have q : ∀ (j : Nat) (v : Value), [Value.string e.src, .int .i64 e.num, .int .i64 e.tick, .int .i64 e.kind, .string e.person, .string e.item, .int .i64 e.value, .string e.text, a8][j]? = some v → j < 9 → w.cell? (ad.add (i * 9 + j)) = some v := fun j v hv hj => by
        have := hat j hj
        rw [hv] at this
        rw [← Go.Deep.add_add]
        exact this
      have hsp : ad.spot = none := by
        obtain ⟨cs0, hc0, _⟩ := hi 0 (by omega)
        rw [hC] at hc0
        obtain ⟨_, hl0, hat0⟩ := World.cells?_some hc0
        have h0 := hat0 0 (by omega)
        rw [Go.Deep.add_add, List.getElem?_eq_getElem (by omega)] at h0
        have := World.cell?_spot h0
        simpa [Addr.add] using this
      obtain ⟨b, off, spot⟩ := ad
      have hs2 : spot = none := hsp
      subst hs2
      have q' : ∀ (j : Nat) (v : Value), [Value.string e.src, .int .i64 e.num, .int .i64 e.tick, .int .i64 e.kind, .string e.person, .string e.item, .int .i64 e.value, .string e.text, a8][j]? = some v → j < 9 → w.cell? ⟨b, off + i * 9 + j, none⟩ = some v := fun j v hv hj => by
        have := q j v hv hj
        rw [add_none, ← Nat.add_assoc] at this
        exact this
      have hblt : b < w.heap.size := cell_lt (a := ⟨b, _, none⟩) (q' 0 _ rfl (by omega))
      have hfin : ∀ (A : Option Addr) (n c : Nat) (ts : List ByteArray), a8 = .slice A n c → n = ts.length → RowIn w w.heap.size 1 A n (ts.map .string) → n ≤ maxLen → (A = none → c = 0) → (∀ t ∈ ts, t.size ≤ maxLen) → ∃ y : Ri, (∃ b' off', some (⟨b, off, none⟩ : Addr) = some ⟨b', off', none⟩ ∧ b' < w.heap.size ∧ RdAt w b' (off' + i * 9) y.1) ∧ RiOk w y := fun A n c ts ha h1 h2 h3 h4 h5 => by
        subst ha
        exact ⟨⟨⟨e, A, n, c⟩, ts⟩, ⟨b, off, rfl, hblt, q' 0 _ rfl (by omega), q' 1 _ rfl (by omega), q' 2 _ rfl (by omega), q' 3 _ rfl (by omega), q' 4 _ rfl (by omega), q' 5 _ rfl (by omega), q' 6 _ rfl (by omega), q' 7 _ rfl (by omega), q' 8 _ rfl (by omega)⟩, hbd, h1, h2, h3, h4, h5⟩
      rcases open_strings Tryd.underlying41 Tryd.underlying9 (by kernel_rfl) k1 with ⟨h0, _⟩ | ⟨sa, ls, cps, ss, h0, _, hls, hcps, hsl, _, hcell, hsz⟩
      · simp at h0
        exact hfin none 0 0 [] h0 rfl (RowIn.nil _ _ _ _) (Nat.zero_le _) (fun _ => rfl) (fun t ht => by cases ht)
      · simp at h0
        have hll : ls ≤ ss.length := by rw [hsl]; split <;> omega
        refine hfin (some sa) ls cps (ss.take ls) h0 (by rw [List.length_take]; omega) ⟨by rw [List.length_map, List.length_take]; omega, ?_⟩ (by omega) (fun h => by cases h) (fun t ht => hsz t (List.mem_of_mem_take ht))
        rcases Nat.eq_zero_or_pos ls with hz | hz
        · exact Or.inl hz
        · have hs3 : sa.spot = none := by
            have h0 := hcell 0 (by omega)
            have := World.cell?_spot h0
            simpa [Addr.add] using this
          obtain ⟨b2, off2, spot2⟩ := sa
          have hs4 : spot2 = none := hs3
          subst hs4
          have hb2 : b2 < w.heap.size := by
            have h0 := hcell 0 (by omega)
            rw [add_none] at h0
            exact cell_lt (a := ⟨b2, _, none⟩) h0
          refine Or.inr ⟨b2, off2, rfl, hb2, fun j u hu => ?_⟩
          rw [List.getElem?_map, List.getElem?_take] at hu
          split at hu
          · rename_i hjl
            have hjs : j < ss.length := by omega
            have h5 := hcell j hjs
            rw [add_none] at h5
            rw [h5]
            rw [List.getElem?_eq_getElem hjs] at hu
            simp at hu
            rw [← hu]
            simp [List.getD_eq_getElem?_getD, hjs]
          · simp at hu)
    refine ⟨l, h1, ?_, hlen, fun h => (by cases h), fun y hy => ?_⟩
    · have hlm2 : (l.map (·.1)).length = l.length := List.length_map _
      refine ⟨by rw [flat_len rdC 9 rdC_len, hlm2, h1], ?_⟩
      rcases Nat.eq_zero_or_pos l.length with h0 | h0
      · exact Or.inl (by rw [← h1]; exact h0)
      · obtain ⟨⟨b, off, hA, hb, _⟩, _⟩ := h2 0 (l[0]'h0) (List.getElem?_eq_getElem h0)
        refine Or.inr ⟨b, off, hA, hb, fun j u hu => ?_⟩
        have hj : j < l.length * 9 := by
          have := (List.getElem?_eq_some_iff.1 hu).1
          rwa [flat_len rdC 9 rdC_len, hlm2] at this
        have hq : j / 9 < l.length := by omega
        obtain ⟨⟨b', off', hA', _, hc⟩, _⟩ := h2 (j / 9) (l[j / 9]'hq) (List.getElem?_eq_getElem hq)
        rw [hA] at hA'
        injection hA' with hA'
        injection hA' with hb' ho'
        subst hb' ho'
        have hg := flat_get rdC 9 rdC_len (l.map (·.1)) (j / 9) (j % 9) (l[j / 9]'hq).1 (by simp [hq]) (by omega)
        rw [show j / 9 * 9 + j % 9 = j from by omega, hu] at hg
        obtain ⟨c0, c1, c2, c3, c4, c5, c6, c7, c8⟩ := hc
        have h4 : j % 9 = 0 ∨ j % 9 = 1 ∨ j % 9 = 2 ∨ j % 9 = 3 ∨ j % 9 = 4 ∨ j % 9 = 5 ∨ j % 9 = 6 ∨ j % 9 = 7 ∨ j % 9 = 8 := by omega
        rcases h4 with h4 | h4 | h4 | h4 | h4 | h4 | h4 | h4 | h4 <;> rw [h4] at hg <;> simp [rdC, evC] at hg <;> subst hg
        · rw [show off + j = off + j / 9 * 9 from by omega]; exact c0
        · rw [show off + j = off + j / 9 * 9 + 1 from by omega]; exact c1
        · rw [show off + j = off + j / 9 * 9 + 2 from by omega]; exact c2
        · rw [show off + j = off + j / 9 * 9 + 3 from by omega]; exact c3
        · rw [show off + j = off + j / 9 * 9 + 4 from by omega]; exact c4
        · rw [show off + j = off + j / 9 * 9 + 5 from by omega]; exact c5
        · rw [show off + j = off + j / 9 * 9 + 6 from by omega]; exact c6
        · rw [show off + j = off + j / 9 * 9 + 7 from by omega]; exact c7
        · rw [show off + j = off + j / 9 * 9 + 8 from by omega]; exact c8
    · obtain ⟨i, hi'⟩ := List.mem_iff_getElem?.1 hy
      exact (h2 i y hi').2

/-- internal/bytealg.MaxLen holds an int, whatever it is. -/
theorem glob_of {W : World} (h : W.ShapedOpen Tryd.prog) : GlobAt W := by
  obtain ⟨m, hm⟩ := Tryd.laysSplit.s1_3 W h
  exact ⟨cell_lt (a := ⟨0, 0, none⟩) hm, m, hm⟩

end Go.Proofs.YtnkglbiakjnfjaaDoor
