/- Arguments that are slices of structs, opened to cells. -/
import Derived.Test.YtobkgkiomapabaaDoorActs
import Derived.Deep.Slices
import Derived.Deep.Fields
import Derived.ChangeSame
import Derived.ProofKit
namespace Go.Proofs.YtobkgkiomapabaaDoor
open Go.ChangeShapes Go.WideShapes Go.Deep
set_option linter.unusedVariables false

section
variable {H : Type} {enc : TypeId × Value → H} {P : Program} {w : World} {base : Nat} {spare : Nat → Bool} {held : Bool}
theorem open_slice_fields {t e : TypeId} {fs : Array Field} {fuel : Nat} {cs : List Value} {x : DataW H × List MemPlace} (ht : P.underlying t = some (.slice e)) (he : P.underlying e = some (.struct fs))
    (hone : oneCellFields P fs = true) (hC : P.cellsOf e = fs.size) (h : DataW.trod enc P w base spare held fuel t cs = some x) :
    (cs = [.slice none 0 0] ∧ x = (.nil, [])) ∨
    ∃ (a : Addr) (len cap m : Nat) (D : Nat → DataW H) (Pl : Nat → List MemPlace), cs = [.slice (some a) len cap] ∧ base ≤ a.block ∧ len ≤ cap ∧ cap ≤ maxLen ∧ m = (if spare a.block then cap else len) ∧
      x = (.slice ((List.range len).map D) ((List.range (m - len)).map fun j => D (len + j)), MemPlace.row a (m * fs.size) ++ (List.range m).flatMap Pl) ∧
      ∀ i, i < m → ∃ (ys : List (DataW H × List MemPlace)) (n : Nat), D i = .agg (ys.map (·.1)) ∧ Pl i = ys.flatMap (·.2) ∧ ys.length = fs.size ∧
        ∀ (j : Nat) (f : Field), fs[j]? = some f → ∃ (v : Value) (y : DataW H × List MemPlace), w.cell? (a.add (i * fs.size + j)) = some v ∧ ys[j]? = some y ∧ DataW.trod enc P w base spare held n f.type [v] = some y := by
  rcases open_slice ht h with h0 | ⟨a, len, cap, m, n, D, Pl, hcs, hb, hl, hm, hmm, hx, hi⟩
  · exact .inl h0
  · refine .inr ⟨a, len, cap, m, D, Pl, hcs, hb, hl, hm, hmm, by rw [hC] at hx; exact hx, fun i him => ?_⟩
    obtain ⟨cs', hc, ht'⟩ := hi i him
    rw [hC] at hc
    obtain ⟨ys, n', hn', hy, hlen, hyl, hf⟩ := DataW.trod_struct he ht'
    obtain ⟨_, hcl, hat⟩ := World.cells?_some hc
    simp only [Prod.mk.injEq] at hy
    refine ⟨ys, n', hy.1, hy.2, hyl, fun j f hj => ?_⟩
    obtain ⟨ho, hk⟩ := hone_of hone j f hj
    have hjl : j < fs.size := (Array.getElem?_eq_some_iff.1 hj).1
    have hcell := hat j hjl
    have hv : cs'[j]? = some (cs'[j]'(by omega)) := List.getElem?_eq_getElem (by omega)
    have h1 := hf j f hj
    rw [ho, hk] at h1
    have hone' : (cs'.drop j).take 1 = [cs'[j]'(by omega)] := by
      rw [List.drop_eq_getElem_cons (by omega)]
      rfl
    rw [hone'] at h1
    have hys : ys[j]? = some (ys[j]'(by omega)) := List.getElem?_eq_getElem (by omega)
    refine ⟨_, _, ?_, hys, h1.trans hys⟩
    rw [← Go.Deep.add_add, hcell, hv]
end

theorem cell_lt {w : World} {a : Addr} {v : Value} (h : w.cell? a = some v) : a.block < w.heap.size := by
  rcases Nat.lt_or_ge a.block w.heap.size with h1 | h1
  · exact h1
  · unfold World.cell? at h
    rw [Array.getElem?_eq_none h1] at h
    simp at h

theorem list_of {α : Type} {p : Nat → α → Prop} : ∀ (n : Nat), (∀ i, i < n → ∃ x, p i x) → ∃ l : List α, l.length = n ∧ ∀ i x, l[i]? = some x → p i x
  | 0, _ => ⟨[], rfl, fun i x h => by simp at h⟩
  | n + 1, h => by
    obtain ⟨l, hl, hp⟩ := list_of n (fun i hi => h i (by omega))
    obtain ⟨x, hx⟩ := h n (by omega)
    refine ⟨l ++ [x], by simp [hl], fun i y hy => ?_⟩
    rcases Nat.lt_or_ge i l.length with h1 | h1
    · rw [List.getElem?_append_left h1] at hy; exact hp i y hy
    · rw [List.getElem?_append_right h1] at hy
      have : i - l.length = 0 := by
        rcases Nat.eq_zero_or_pos (i - l.length) with h2 | h2
        · exact h2
        · rw [List.getElem?_eq_none (by simp; omega)] at hy; cases hy
      rw [this] at hy
      simp at hy
      subst hy
      rw [show i = n from by omega]
      exact hx

theorem add_none (b off k : Nat) : (⟨b, off, none⟩ : Addr).add k = ⟨b, off + k, none⟩ := by
  unfold Addr.add
  split
  · rename_i h; subst h; rfl
  · rfl

theorem acts_of {H : Type} {enc : TypeId × Value → H} {w : World} {base : Nat} {spare : Nat → Bool} {held : Bool} {fuel : Nat} {a : Option Addr} {len cap : Nat} {x : DataW H × List MemPlace}
    (h : DataW.trod enc Tryd.prog w base spare held fuel 22 [.slice a len cap] = some x) : ∃ l : List ActD, l.length = len ∧ len ≤ maxLen ∧ ActsAt w w.heap.size a l := by
  rcases open_slice_fields Tryd.underlying22 Tryd.underlying31 (by kernel_rfl) (by kernel_rfl) h with ⟨hcs, _⟩ | ⟨ad, n, c, m, D, Pl, hcs, _, hl, hm, hmm, _, hi⟩
  · simp at hcs
    obtain ⟨rfl, rfl, rfl⟩ := hcs
    exact ⟨[], rfl, Nat.zero_le _, fun i x hx => by simp at hx⟩
  · simp at hcs
    obtain ⟨rfl, rfl, rfl⟩ := hcs
    have hlm : len ≤ m := by rw [hmm]; split <;> omega
    obtain ⟨l, h1, h2⟩ := list_of (α := ActD) (p := fun i x => ∃ b off, some ad = some ⟨b, off, none⟩ ∧ b < w.heap.size ∧ w.cell? ⟨b, off + i * 4, none⟩ = some (.int .i64 x.kind) ∧ w.cell? ⟨b, off + i * 4 + 1, none⟩ = some (.string x.name) ∧
        w.cell? ⟨b, off + i * 4 + 2, none⟩ = some (.int .i64 x.at_) ∧ w.cell? ⟨b, off + i * 4 + 3, none⟩ = some (.int .i64 x.now)) len (fun i hil => by
      obtain ⟨ys, n', _, _, _, hf⟩ := hi i (by omega)
      obtain ⟨v0, y0, e0, _, t0⟩ := hf 0 _ rfl
      obtain ⟨v1, y1, e1, _, t1⟩ := hf 1 _ rfl
      obtain ⟨v2, y2, e2, _, t2⟩ := hf 2 _ rfl
      obtain ⟨v3, y3, e3, _, t3⟩ := hf 3 _ rfl
      obtain ⟨kd, hv0, _, _⟩ := DataW.trod_int Tryd.underlying3 t0
      obtain ⟨nm, hv1, _, _⟩ := DataW.trod_string Tryd.underlying9 t1
      obtain ⟨at_, hv2, _, _⟩ := DataW.trod_int Tryd.underlying3 t2
      obtain ⟨nw, hv3, _, _⟩ := DataW.trod_int Tryd.underlying3 t3
      simp at hv0 hv1 hv2 hv3
      subst hv0 hv1 hv2 hv3
      obtain ⟨_, _, _, _, _, hf0⟩ := hi 0 (by omega)
      obtain ⟨u0, _, d0, _, _⟩ := hf0 0 _ rfl
      have hsp : ad.spot = none := World.cell?_spot (by simpa [Addr.add] using d0)
      obtain ⟨b, off, spot⟩ := ad
      have hs2 : spot = none := hsp
      subst hs2
      have e0' : w.cell? ((⟨b, off, none⟩ : Addr).add (i * 4 + 0)) = some (.int .i64 kd) := e0
      have e1' : w.cell? ((⟨b, off, none⟩ : Addr).add (i * 4 + 1)) = some (.string nm) := e1
      have e2' : w.cell? ((⟨b, off, none⟩ : Addr).add (i * 4 + 2)) = some (.int .i64 at_) := e2
      have e3' : w.cell? ((⟨b, off, none⟩ : Addr).add (i * 4 + 3)) = some (.int .i64 nw) := e3
      rw [add_none] at e0' e1' e2' e3'
      refine ⟨⟨kd, nm, at_, nw⟩, b, off, rfl, cell_lt (a := ⟨b, _, none⟩) e0', by simpa using e0', ?_, ?_, ?_⟩
      · rw [Nat.add_assoc]; exact e1'
      · rw [Nat.add_assoc]; exact e2'
      · rw [Nat.add_assoc]; exact e3')
    exact ⟨l, h1, Nat.le_trans hl hm, h2⟩

end Go.Proofs.YtobkgkiomapabaaDoor
