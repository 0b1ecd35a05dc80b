/- A part of the joined base. -/
import Derived.Test.YthdmpcnnbminlaaGreatDoorR01
import Derived.Test.YthdmpcnnbminlaaGreatDoorR40
import Derived.Test.YthdmpcnnbminlaaGreatDoorR39
import Derived.Test.YthdmpcnnbminlaaGreatDoorRows
import Derived.Deep.Slices
import Derived.Deep.Fields
import Derived.ChangeSame
import Derived.ProofKit
import Derived.SizedLaws
import Derived.Lib.SmallJoins
import Derived.ChangeMaps5
import Derived.ChangeArms
import Derived.RowKit
import Derived.Lib.LaidTab
set_option linter.unusedVariables false
set_option maxHeartbeats 8000000
set_option maxRecDepth 100000
namespace Go.Proofs.YthdmpcnnbminlaaGreatDoor
open Go.ChangeShapes Go.WideShapes Go.Deep
section
variable {H : Type} {enc : TypeId × Value → H} {P : Program} {w : World} {base : Nat} {spare : Nat → Bool} {held : Bool}
theorem open_slice_fields {t e : TypeId} {fs : Array Field} {fuel : Nat} {cs : List Value} {x : DataW H × List MemPlace} (ht : P.underlying t = some (.slice e)) (he : P.underlying e = some (.struct fs))
  (hone : oneCellFields P fs = true) (hC : P.cellsOf e = fs.size) (h : DataW.trod enc P w base spare held fuel t cs = some x) :
  (cs = [.slice none 0 0] ∧ x = (.nil, [])) ∨
  ∃ (a : Addr) (len cap m : Nat) (D : Nat → DataW H) (Pl : Nat → List MemPlace), cs = [.slice (some a) len cap] ∧ base ≤ a.block ∧ len ≤ cap ∧ cap ≤ maxLen ∧ m = (if spare a.block then cap else len) ∧
   x = (.slice ((List.range len).map D) ((List.range (m - len)).map fun j => D (len + j)), MemPlace.row a (m * fs.size) ++ (List.range m).flatMap Pl) ∧
   ∀ i, i < m → ∃ (ys : List (DataW H × List MemPlace)) (n : Nat), D i = .agg (ys.map (·.1)) ∧ Pl i = ys.flatMap (·.2) ∧ ys.length = fs.size ∧
    ∀ (j : Nat) (f : Field), fs[j]? = some f → ∃ (v : Value) (y : DataW H × List MemPlace), w.cell? (a.add (i * fs.size + j)) = some v ∧ ys[j]? = some y ∧ DataW.trod enc P w base spare held n f.type [v] = some y := by
 rcases open_slice ht h with h0 | ⟨a, len, cap, m, n, D, Pl, hcs, hb, hl, hm, hmm, hx, hi⟩
 ·exact .inl h0
 ·refine .inr ⟨a, len, cap, m, D, Pl, hcs, hb, hl, hm, hmm, by rw [hC] at hx; exact hx, fun i him => ?_⟩
  obtain ⟨cs', hc, ht'⟩ := hi i him
  rw [hC] at hc
  obtain ⟨ys, n', hn', hy, hlen, hyl, hf⟩ := DataW.trod_struct he ht'
  obtain ⟨_, hcl, hat⟩ := World.cells?_some hc
  simp only [Prod.mk.injEq] at hy
  refine ⟨ys, n', hy.1, hy.2, hyl, fun j f hj => ?_⟩
  obtain ⟨ho, hk⟩ := hone_of hone j f hj
  have hjl : j < fs.size := (Array.getElem?_eq_some_iff.1 hj).1
  have hcell := hat j hjl
  have hv : cs'[j]? = some (cs'[j]'(by omega)) := List.getElem?_eq_getElem (by omega)
  have h1 := hf j f hj
  rw [ho, hk] at h1
  have hone' : (cs'.drop j).take 1 = [cs'[j]'(by omega)] := by
   rw [List.drop_eq_getElem_cons (by omega)]
   rfl
  rw [hone'] at h1
  have hys : ys[j]? = some (ys[j]'(by omega)) := List.getElem?_eq_getElem (by omega)
  refine ⟨_, _, ?_, hys, h1.trans hys⟩
  rw [← Go.Deep.add_add, hcell, hv]
end
theorem cell_lt {w : World} {a : Addr} {v : Value} (h : w.cell? a = some v) : a.block < w.heap.size := by
 rcases Nat.lt_or_ge a.block w.heap.size with h1 | h1
 ·exact h1
 ·unfold World.cell? at h
  rw [Array.getElem?_eq_none h1] at h
  simp at h
theorem list_of {α : Type} {p : Nat → α → Prop} : ∀ (n : Nat), (∀ i, i < n → ∃ x, p i x) → ∃ l : List α, l.length = n ∧ ∀ i x, l[i]? = some x → p i x
 | 0, _ => ⟨[], rfl, fun i x h => by simp at h⟩
 | n + 1, h => by
  obtain ⟨l, hl, hp⟩ := list_of n (fun i hi => h i (by omega))
  obtain ⟨x, hx⟩ := h n (by omega)
  refine ⟨l ++ [x], by simp [hl], fun i y hy => ?_⟩
  rcases Nat.lt_or_ge i l.length with h1 | h1
  ·rw [List.getElem?_append_left h1] at hy; exact hp i y hy
  ·rw [List.getElem?_append_right h1] at hy
   have : i - l.length = 0 := by
    rcases Nat.eq_zero_or_pos (i - l.length) with h2 | h2
    ·exact h2
    ·rw [List.getElem?_eq_none (by simp; omega)] at hy; cases hy
   rw [this] at hy
   simp at hy
   subst hy
   rw [show i = n from by omega]
   exact hx
theorem add_none (b off k : Nat) : (⟨b, off, none⟩ : Addr).add k = ⟨b, off + k, none⟩ := by
 unfold Addr.add
 split
 ·rename_i h; subst h; rfl
 ·rfl
theorem mem_weightsAll {H : Type} {P : Program} {e : TypeId} {d : DataW H} {n : Nat} (hn : n ∈ d.weights P e) : ∀ {l : List (DataW H)}, d ∈ l → n ∈ DataW.weightsAll P e l
 | x :: l, h => by
  simp only [DataW.weightsAll, List.mem_append]
  rcases List.mem_cons.1 h with rfl | h
  ·exact Or.inl hn
  ·exact Or.inr (mem_weightsAll hn h)
def EvWf (e : Ev) : Prop := (Lit.int .i64 e.num).wf = true ∧ (Lit.int .i64 e.tick).wf = true ∧ (Lit.int .i64 e.kind).wf = true ∧ (Lit.int .i64 e.value).wf = true
theorem evs_of {H : Type} {enc : TypeId × Value → H} {w : World} {base : Nat} {spare : Nat → Bool} {held : Bool} {fuel : Nat} {a : Option Addr} {len cap : Nat} {x : DataW H × List MemPlace}
  (h : DataW.trod enc Tryz.prog w base spare held fuel 24 [.slice a len cap] = some x) (hw : ∀ n ∈ x.1.weights Tryz.prog 24, n ≤ reachBytes) :
  ∃ l : List Ev, l.length = len ∧ len ≤ 140737488355328 ∧ EvsAt w w.heap.size a l ∧ (a = none → cap = 0) ∧ (∀ y ∈ l, EvBd y) ∧ ∀ y ∈ l, EvWf y := by
 rcases open_slice_fields Tryz.underlying24 Tryz.underlying31 (by kernel_rfl) (by kernel_rfl) h with ⟨hcs, _⟩ | ⟨ad, n, c, m, D, Pl, hcs, _, hl, hm, hmm, hx, hi⟩
 ·simp at hcs
  obtain ⟨rfl, rfl, rfl⟩ := hcs
  exact ⟨[], rfl, Nat.zero_le _, RowIn.nil _ _ _ _, fun _ => rfl, fun y hy => (by cases hy), fun y hy => (by cases hy)⟩
 ·simp at hcs
  obtain ⟨rfl, rfl, rfl⟩ := hcs
  have hlm : len ≤ m := by rw [hmm]; split <;> omega
  have hbo : Tryz.prog.bytesOf 31 = 96 := by kernel_rfl
  have hlen : len ≤ 140737488355328 := by
   have h1 := hw ((len + (m - len)) * 96) (by rw [hx]; simp [DataW.weights, Tryz.underlying24, hbo])
   unfold reachBytes at h1
   omega
  obtain ⟨l, h1, h2⟩ := list_of (α := Ev) (p := fun i y => (∃ b off, some ad = some ⟨b, off, none⟩ ∧ b < w.heap.size ∧ EvAt w b (off + i * 8) y) ∧ EvBd y ∧ EvWf y) len (fun i hil => by
   obtain ⟨ys, n', hD, _, hys, hf⟩ := hi i (by omega)
   obtain ⟨v0, y0, e0, g0, t0⟩ := hf 0 _ rfl
   obtain ⟨v1, y1, e1, g1, t1⟩ := hf 1 _ rfl
   obtain ⟨v2, y2, e2, g2, t2⟩ := hf 2 _ rfl
   obtain ⟨v3, y3, e3, g3, t3⟩ := hf 3 _ rfl
   obtain ⟨v4, y4, e4, g4, t4⟩ := hf 4 _ rfl
   obtain ⟨v5, y5, e5, g5, t5⟩ := hf 5 _ rfl
   obtain ⟨v6, y6, e6, g6, t6⟩ := hf 6 _ rfl
   obtain ⟨v7, y7, e7, g7, t7⟩ := hf 7 _ rfl
   obtain ⟨x0, hv0, hd0, _⟩ := DataW.trod_string Tryz.underlying9 t0
   obtain ⟨x1, hv1, _, hw1⟩ := DataW.trod_int Tryz.underlying3 t1
   obtain ⟨x2, hv2, _, hw2⟩ := DataW.trod_int Tryz.underlying3 t2
   obtain ⟨x3, hv3, _, hw3⟩ := DataW.trod_int Tryz.underlying29 t3
   obtain ⟨x4, hv4, hd4, _⟩ := DataW.trod_string Tryz.underlying9 t4
   obtain ⟨x5, hv5, hd5, _⟩ := DataW.trod_string Tryz.underlying9 t5
   obtain ⟨x6, hv6, _, hw6⟩ := DataW.trod_int Tryz.underlying3 t6
   obtain ⟨x7, hv7, hd7, _⟩ := DataW.trod_string Tryz.underlying9 t7
   simp at hv0 hv1 hv2 hv3 hv4 hv5 hv6 hv7
   subst hv0 hv1 hv2 hv3 hv4 hv5 hv6 hv7
   have hin : D i ∈ (List.range len).map D := List.mem_map.2 ⟨i, List.mem_range.2 hil, rfl⟩
   have hwD : ∀ k ∈ (D i).weights Tryz.prog 31, k ≤ reachBytes := fun k hk => hw k (by
    rw [hx]
    simp only [DataW.weights, Tryz.underlying24, List.mem_cons, List.mem_append]
    exact Or.inr (Or.inl (mem_weightsAll hk hin)))
   have hz : ∀ (j : Nat) (s : ByteArray) (z : DataW H × List MemPlace), ys[j]? = some z → z.1 = .lit (.string s.data.toList) → (j = 0 ∨ j = 4 ∨ j = 5 ∨ j = 7) → s.size ≤ 281474976710656 := fun j s z hz hs hj => by
    have h3 := hwD s.data.toList.length (by
     rw [hD]
     simp only [DataW.weights, Tryz.underlying31]
     refine DataW.weights_mem_each (j := j) (t := 9) (d := z.1) ?_ (by simp [hz]) _ (by rw [hs]; simp [DataW.weights])
     rcases hj with rfl | rfl | rfl | rfl <;> rfl)
    have e : s.data.toList.length = s.size := by simp
    rw [e] at h3
    unfold reachBytes at h3
    omega
   obtain ⟨_, _, _, _, _, hf0⟩ := hi 0 (by omega)
   obtain ⟨u0, _, d0, _, _⟩ := hf0 0 _ rfl
   have hsp : ad.spot = none := World.cell?_spot (by simpa [Addr.add] using d0)
   obtain ⟨b, off, spot⟩ := ad
   have hs2 : spot = none := hsp
   subst hs2
   have e0' : w.cell? ((⟨b, off, none⟩ : Addr).add (i * 8 + 0)) = some (.string x0) := e0
   have e1' : w.cell? ((⟨b, off, none⟩ : Addr).add (i * 8 + 1)) = some (.int .i64 x1) := e1
   have e2' : w.cell? ((⟨b, off, none⟩ : Addr).add (i * 8 + 2)) = some (.int .i64 x2) := e2
   have e3' : w.cell? ((⟨b, off, none⟩ : Addr).add (i * 8 + 3)) = some (.int .i64 x3) := e3
   have e4' : w.cell? ((⟨b, off, none⟩ : Addr).add (i * 8 + 4)) = some (.string x4) := e4
   have e5' : w.cell? ((⟨b, off, none⟩ : Addr).add (i * 8 + 5)) = some (.string x5) := e5
   have e6' : w.cell? ((⟨b, off, none⟩ : Addr).add (i * 8 + 6)) = some (.int .i64 x6) := e6
   have e7' : w.cell? ((⟨b, off, none⟩ : Addr).add (i * 8 + 7)) = some (.string x7) := e7
   rw [add_none] at e0' e1' e2' e3' e4' e5' e6' e7'
   refine ⟨⟨x0, x1, x2, x3, x4, x5, x6, x7⟩, ⟨b, off, rfl, cell_lt (a := ⟨b, _, none⟩) e0', by simpa using e0', ?_, ?_, ?_, ?_, ?_, ?_, ?_⟩, ⟨hz 0 x0 y0 g0 (by rw [hd0]) (by simp), hz 4 x4 y4 g4 (by rw [hd4]) (by simp), hz 5 x5 y5 g5 (by rw [hd5]) (by simp), hz 7 x7 y7 g7 (by rw [hd7]) (by simp)⟩, ⟨hw1, hw2, hw3, hw6⟩⟩
   ·rw [Nat.add_assoc]; exact e1'
   ·rw [Nat.add_assoc]; exact e2'
   ·rw [Nat.add_assoc]; exact e3'
   ·rw [Nat.add_assoc]; exact e4'
   ·rw [Nat.add_assoc]; exact e5'
   ·rw [Nat.add_assoc]; exact e6'
   ·rw [Nat.add_assoc]; exact e7')
  refine ⟨l, h1, hlen, ?_, fun h => (by cases h), fun y hy => ?_, fun y hy => ?_⟩
  ·refine ⟨by rw [flat_len evC 8 evC_len, h1], ?_⟩
   rcases Nat.eq_zero_or_pos l.length with h0 | h0
   ·exact Or.inl h0
   ·obtain ⟨⟨b, off, hA, hb, _⟩, _⟩ := h2 0 (l[0]'h0) (List.getElem?_eq_getElem h0)
    refine Or.inr ⟨b, off, hA, hb, fun j u hu => ?_⟩
    have hj : j < l.length * 8 := by
     have := (List.getElem?_eq_some_iff.1 hu).1
     rwa [flat_len evC 8 evC_len] at this
    have hq : j / 8 < l.length := by omega
    obtain ⟨⟨b', off', hA', _, hc⟩, _⟩ := h2 (j / 8) (l[j / 8]'hq) (List.getElem?_eq_getElem hq)
    rw [hA] at hA'
    injection hA' with hA'
    injection hA' with hb' ho'
    subst hb' ho'
    have hg := flat_get evC 8 evC_len l (j / 8) (j % 8) _ (List.getElem?_eq_getElem hq) (by omega)
    rw [show j / 8 * 8 + j % 8 = j from by omega, hu] at hg
    obtain ⟨c0, c1, c2, c3, c4, c5, c6, c7⟩ := hc
    have h4 : j % 8 = 0 ∨ j % 8 = 1 ∨ j % 8 = 2 ∨ j % 8 = 3 ∨ j % 8 = 4 ∨ j % 8 = 5 ∨ j % 8 = 6 ∨ j % 8 = 7 := by omega
    rcases h4 with h4 | h4 | h4 | h4 | h4 | h4 | h4 | h4 <;> rw [h4] at hg <;> simp [evC] at hg <;> subst hg
    ·rw [show off + j = off + j / 8 * 8 from by omega]; exact c0
    ·rw [show off + j = off + j / 8 * 8 + 1 from by omega]; exact c1
    ·rw [show off + j = off + j / 8 * 8 + 2 from by omega]; exact c2
    ·rw [show off + j = off + j / 8 * 8 + 3 from by omega]; exact c3
    ·rw [show off + j = off + j / 8 * 8 + 4 from by omega]; exact c4
    ·rw [show off + j = off + j / 8 * 8 + 5 from by omega]; exact c5
    ·rw [show off + j = off + j / 8 * 8 + 6 from by omega]; exact c6
    ·rw [show off + j = off + j / 8 * 8 + 7 from by omega]; exact c7
  ·obtain ⟨i, hi'⟩ := List.mem_iff_getElem?.1 hy
   exact (h2 i y hi').2.1
  ·obtain ⟨i, hi'⟩ := List.mem_iff_getElem?.1 hy
   exact (h2 i y hi').2.2
theorem glob_of {W : World} (h : W.ShapedOpen Tryz.prog) : GlobAt W := by
 obtain ⟨m, hm⟩ := Tryz.laysSplit.s1_3 W h
 exact ⟨cell_lt (a := ⟨2, 0, none⟩) hm, m, hm⟩
end Go.Proofs.YthdmpcnnbminlaaGreatDoor
namespace Go.Proofs.YthdmpcnnbminlaaGreatDoor
open Go.ChangeShapes Go.WideShapes Go.RowKit
section
variable {H : Type} {enc : TypeId × Value → H} {w : World} {base : Nat} {spare : Nat → Bool} {held : Bool}
theorem list6 {α : Type} {l : List α} (h : l.length = 6) : ∃ a0 a1 a2 a3 a4 a5, l = [a0, a1, a2, a3, a4, a5] := by
 match l, h with
 | [a0, a1, a2, a3, a4, a5], _ => exact ⟨a0, a1, a2, a3, a4, a5, rfl⟩
theorem some_get6 {α : Type} {l : List α} {i n : Nat} (h : l.length = n) (hi : i < n) : ∃ y, l[i]? = some y := ⟨_, List.getElem?_eq_getElem (by omega)⟩
theorem open_cfg {r : Reach} {b0 : Nat} {v : Value} {d : DataW H} {p : List MemPlace} (hv : Value.okWide Tryz.prog w r b0 23 v) (h : DataW.Trod enc Tryz.prog w base spare held 23 v d p) : ∃ c : Cfg, v = cfgA c := by
 obtain ⟨cs, rfl, hsz⟩ := okWide_struct Tryz.underlying23 hv
 have hsz6 : cs.size = 6 := hsz.trans (by kernel_rfl)
 obtain ⟨l⟩ := cs
 have hl : l.length = 6 := hsz6
 clear hsz hsz6 hv
 obtain ⟨a0, a1, a2, a3, a4, a5, rfl⟩ := list6 hl
 clear hl
 obtain ⟨fuel, hf⟩ := h
 obtain ⟨xs, n, _, _, _, hlen, hfs⟩ := DataW.trod_struct Tryz.underlying23 hf
 have hlen6 : xs.length = 6 := hlen
 obtain ⟨y0, hy0⟩ := some_get6 (i := 0) hlen6 (by omega)
 have g0 := hfs 0 _ rfl
 rw [hy0] at g0
 obtain ⟨m0, e0, _, _⟩ := DataW.trod_int Tryz.underlying3 g0
 have e0' : [a0] = [.int .i64 m0] := e0
 obtain rfl : a0 = .int .i64 m0 := by injection e0'
 obtain ⟨y1, hy1⟩ := some_get6 (i := 1) hlen6 (by omega)
 have g1 := hfs 1 _ rfl
 rw [hy1] at g1
 obtain ⟨m1, e1, _, _⟩ := DataW.trod_int Tryz.underlying3 g1
 have e1' : [a1] = [.int .i64 m1] := e1
 obtain rfl : a1 = .int .i64 m1 := by injection e1'
 obtain ⟨y2, hy2⟩ := some_get6 (i := 2) hlen6 (by omega)
 have g2 := hfs 2 _ rfl
 rw [hy2] at g2
 obtain ⟨m2, e2, _, _⟩ := DataW.trod_int Tryz.underlying3 g2
 have e2' : [a2] = [.int .i64 m2] := e2
 obtain rfl : a2 = .int .i64 m2 := by injection e2'
 obtain ⟨y3, hy3⟩ := some_get6 (i := 3) hlen6 (by omega)
 have g3 := hfs 3 _ rfl
 rw [hy3] at g3
 obtain ⟨m3, e3, _, _⟩ := DataW.trod_int Tryz.underlying3 g3
 have e3' : [a3] = [.int .i64 m3] := e3
 obtain rfl : a3 = .int .i64 m3 := by injection e3'
 obtain ⟨y4, hy4⟩ := some_get6 (i := 4) hlen6 (by omega)
 have g4 := hfs 4 _ rfl
 rw [hy4] at g4
 obtain ⟨m4, e4, _, _⟩ := DataW.trod_int Tryz.underlying3 g4
 have e4' : [a4] = [.int .i64 m4] := e4
 obtain rfl : a4 = .int .i64 m4 := by injection e4'
 obtain ⟨y5, hy5⟩ := some_get6 (i := 5) hlen6 (by omega)
 have g5 := hfs 5 _ rfl
 rw [hy5] at g5
 obtain ⟨m5, e5, _, _⟩ := DataW.trod_int Tryz.underlying3 g5
 have e5' : [a5] = [.int .i64 m5] := e5
 obtain rfl : a5 = .int .i64 m5 := by injection e5'
 exact ⟨⟨m0, m1, m2, m3, m4, m5⟩, rfl⟩
end
def strData {H : Type} (zs : List ByteArray) : DataW H := .agg (zs.map fun z => .lit (.string z.data.toList))
theorem cells_of_strs {H : Type} {enc : TypeId × Value → H} {P : Program} {w : World} {base : Nat} {sp : Nat → Bool} {held : Bool} {fuel : Nat} {t e : TypeId} {n : Nat} {cs : List Value} {zs : List ByteArray} {p : List MemPlace}
  (ht : P.underlying t = some (.array n e)) (he : P.underlying e = some .string) (hce : P.cellsOf e = 1) (hct : P.cellsOf t = n)
  (h : DataW.trod enc P w base sp held fuel t cs = some (strData zs, p)) : cs = zs.map fun z => Value.string z := by
 cases fuel with
 | zero => simp [DataW.trod] at h
 | succ fuel =>
  simp only [DataW.trod, ht, hce, hct, Nat.mul_one] at h
  split at h
  ·rename_i hl
   obtain ⟨xs, hm, hx⟩ := Option.map_eq_some_iff.1 h
   have hxs : xs.map (·.1) = zs.map fun z => (DataW.lit (.string z.data.toList) : DataW H) := by
    have := congrArg Prod.fst hx
    simpa [strData] using this
   have hxl : xs.length = n := by simpa using Lib.mapM_length hm
   have hzl : zs.length = n := by
    have := congrArg List.length hxs
    simp at this
    omega
   apply List.ext_getElem?
   intro i
   by_cases hi : i < n
   ·obtain ⟨b, hb, hf⟩ := Lib.mapM_at hm i i (by simp [hi])
    obtain ⟨z, hc, hd, _⟩ := DataW.trod_string he hf
    have h1 : cs[i]? = some (.string z) := by
     have := congrArg (·[0]?) hc
     simpa [List.getElem?_take, List.getElem?_drop] using this
    have h2 : (xs.map (·.1))[i]? = some (DataW.lit (.string z.data.toList) : DataW H) := by simp [hb, hd]
    rw [hxs] at h2
    simp only [List.getElem?_map, Option.map_eq_some_iff, DataW.lit.injEq, Lit.string.injEq] at h2
    obtain ⟨z', hz', he'⟩ := h2
    have : z' = z := by
     cases z'; cases z
     simp at he'
     subst he'
     rfl
    simp [h1, hz', this]
   ·rw [List.getElem?_eq_none (by omega), List.getElem?_eq_none (by simp; omega)]
  ·cases h
theorem strs_of_head {P : Program} {W : World} {name : String} {zs : List ByteArray} {rest : List (String × DataW Unit)} {g : Nat} {t e : TypeId} {n : Nat}
  (hg : P.globalNamed name = some g) (hty : (P.globals[g]?).map (·.type) = some t) (ht : P.underlying t = some (.array n e)) (he : P.underlying e = some .string) (hce : P.cellsOf e = 1) (hct : P.cellsOf t = n)
  (h : laidMet P ((name, strData zs) :: rest) W) : ∀ (i : Nat) z, zs[i]? = some z → W.cell? ⟨g, i, none⟩ = some (.string z) := by
 obtain ⟨ps, ⟨g', t', cs, fuel, p, q, hg', ht', hvar, hd, _, _⟩, _⟩ := h
 obtain rfl := Option.some.inj (hg.symm.trans hg')
 obtain rfl := Option.some.inj (hty.symm.trans ht')
 have h1 := cells_of_strs ht he hce hct hd
 intro i z hz
 have h2 := World.var?_cell hg hvar i
 rw [h2]
 have h3 : cs.toList[i]? = some (.string z) := by rw [h1]; simp [hz]
 simpa using h3
end Go.Proofs.YthdmpcnnbminlaaGreatDoor
namespace Go.Proofs.YthdmpcnnbminlaaGreatDoor
open Go.Shelf Go.RowKit Go.Maps
theorem texts_any (w : World) (A A' : Option Addr) (l l' : List ByteArray) (n m c c' B B' : Nat) (hn : l.length = n) (hm : l'.length = m) (hl : RowIn w B 1 A n (l.map Value.string)) (hl' : RowIn w B' 1 A' m (l'.map Value.string)) (hb : n ≤ 1000000) :
  Calls Tryz.prog 26 #[.slice A n c, .slice A' m c'] w fun e w' => ∃ b : Bool, e = .returned (.bool b) ∧ (b = true ↔ l = l') ∧ ∃ q, w' = w.drewN q := by
 have HN := zh hn
 have HM := zh hm
 have HL := zh hl
 have HL' := zh hl'
 clear hn hm hl hl'
 by_cases hnm : n = m
 ·subst hnm
  go_enter Tryz.func26, Tryz.ntmps26
  go_wp2_with fail
  go_loopw [5] (fun i wr => ∃ k q : Nat, k ≤ n ∧ i = .int .i64 k ∧ Hid (∀ j, j < k → l[j]? = l'[j]?) ∧ wr = w.drewN q) (fun i _ => n - (intOf i).toNat)
  case atStart => exact ⟨0, 0, Nat.zero_le _, rfl, zh (fun j hj => by omega), rfl⟩
  case round =>
   obtain ⟨k, q, hk, rfl, hok, rfl⟩ := hrel
   by_cases hlt : k < n
   ·obtain ⟨x, hx⟩ : ∃ x, l[k]? = some x := ⟨l[k]'(by rw [HN.out]; exact hlt), List.getElem?_eq_getElem _⟩
    obtain ⟨y, hy⟩ : ∃ y, l'[k]? = some y := ⟨l'[k]'(by rw [HM.out]; exact hlt), List.getElem?_eq_getElem _⟩
    obtain ⟨g, o, rfl, _, hc⟩ := HL.out.at (by omega)
    obtain ⟨g', o', rfl, _, hc'⟩ := HL'.out.at (by omega)
    have e0 : w.cell? ⟨g, o + k, none⟩ = some (Value.string x) := hc k _ (by simp [hx])
    have e1 : w.cell? ⟨g', o' + k, none⟩ = some (Value.string y) := hc' k _ (by simp [hy])
    have HX := zh hx
    have HY := zh hy
    have hk8 : (k : Int) < (n : Int) := by omega
    have hk9 : (0 : Int) ≤ (k : Int) := by omega
    clear hx hy hc hc'
    by_cases he : x = y
    ·have HQ := zh he
     have q1 : (x.toList == y.toList) = true := (beq_list x y).2 he
     have q2 : (x.toList != y.toList) = false := by simp [he]
     clear he
     go_wp2_with fail
     go_quiet (fail)
     go_wp2_with fail
     go_roundw
     case rel =>
      refine ⟨k + 1, q + nq, by omega, by go_num, zh (fun j hj => ?_), by first | rfl | simp⟩
      by_cases e : j = k
      ·subst e; rw [HX.out, HY.out, HQ.out]
      ·exact hok.out j (by omega)
     case measure => simp [intOf]; omega
    ·have HQ := zh he
     have q1 : (x.toList == y.toList) = false := Bool.eq_false_iff.2 (fun e => he ((beq_list x y).1 e))
     have q2 : (x.toList != y.toList) = true := by unfold bne; rw [q1]; rfl
     clear he
     go_wp2_with fail
     go_quiet (fail)
     go_wp2_with fail
     go_ret
     refine ⟨false, rfl, ⟨fun h => (by cases h), fun h => ?_⟩, q + nq, by first | rfl | simp⟩
     subst h
     have h1 := HX.out
     rw [HY.out] at h1
     exact absurd (Option.some.inj h1).symm HQ.out
   ·obtain rfl : n = k := by omega
    go_wp2_with fail
    go_ret
    refine ⟨true, rfl, ⟨fun _ => List.ext_getElem? (fun j => ?_), fun _ => rfl⟩, q, rfl⟩
    by_cases hj : j < n
    ·exact hok.out j hj
    ·rw [List.getElem?_eq_none (by rw [HN.out]; omega), List.getElem?_eq_none (by rw [HM.out]; omega)]
 ·have b0 : ((n : Int) != (m : Int)) = true := by rw [bne_iff_ne]; omega
  have HNM := zh hnm
  go_enter Tryz.func26, Tryz.ntmps26
  go_wp2_with fail
  go_ret
  refine ⟨false, rfl, ⟨fun h => (by cases h), fun h => ?_⟩, 0, rfl⟩
  subst h
  exact absurd (HN.out.symm.trans HM.out) HNM.out
end Go.Proofs.YthdmpcnnbminlaaGreatDoor
