/- ClockSlack: what isn't late by a slack isn't by a greater one, whatever was heard: the mark is never above. -/
import Derived.Test.YtobkgkiomapabaaGreatDoorRises
import Derived.Test.YtobkgkiomapabaaGreatDoorText
namespace Go.Proofs.YtobkgkiomapabaaGreatDoor
open Go.RowKit Go.Maps Go.Lib Go.Shelf
set_option linter.unusedVariables false

/-- d is as c, but for a greater slack and a mark that isn't above. -/
structure Sim (more : Int) (c d : Ck) : Prop where
  slack : d.slack = c.slack + more
  idle : d.idle = c.idle
  now : d.now = c.now
  src : d.src = c.src
  mark : d.mark ≤ c.mark

theorem Sim.told {more : Int} {c d : Ck} (h : Sim more c d) {m : Int} {any : Bool} (ht : Told c m any) : Told d (if any then m - more else 0) any := by
  have ha : ∀ x, act d x = act c x := fun x => by unfold act; rw [h.idle, h.now]
  rcases ht with ⟨rfl, rfl, h3⟩ | ⟨rfl, ⟨s, x, hs, hx, rfl⟩, h3⟩
  · exact Or.inl ⟨rfl, rfl, fun s x hs _ => by rw [ha]; exact h3 s x (by rw [← h.src]; exact hs) trivial⟩
  · refine Or.inr ⟨rfl, ⟨s, x, by rw [h.src]; exact hs, by rw [ha]; exact hx, by rw [h.slack]; simp; omega⟩, fun s' x' hs' _ hx' => ?_⟩
    have := h3 s' x' (by rw [← h.src]; exact hs') trivial (by rw [← ha]; exact hx')
    rw [h.slack]; simp; omega

theorem Sim.rose {more : Int} {c d c' d' : Ck} (h0 : 0 ≤ more) (h : Sim more c d) (hc : Rose c c') (hd : Rose d d') : Sim more c' d' := by
  obtain ⟨m, any, ht, rfl⟩ := hc
  obtain ⟨m', any', ht', rfl⟩ := hd
  obtain ⟨rfl, rfl⟩ := (h.told ht).unique ht'
  refine ⟨h.slack, h.idle, h.now, h.src, ?_⟩
  have := h.mark
  cases any <;> simp <;> omega

theorem Sim.ticked {more now : Int} {c d c' d' : Ck} (h0 : 0 ≤ more) (h : Sim more c d) (hc : Ticked c now c') (hd : Ticked d now d') : Sim more c' d' :=
  Sim.rose (c := { c with now := max c.now (bnd now) }) (d := { d with now := max d.now (bnd now) }) h0 ⟨h.slack, h.idle, by show max d.now _ = max c.now _; rw [h.now], h.src, h.mark⟩ hc hd

theorem Sim.both {more at_ now : Int} {c d c' d' : Ck} {s : ByteArray} {r : Bool} (h0 : 0 ≤ more) (h : Sim more c d) (hc : Hears c s at_ now true c') (hd : Hears d s at_ now r d') : r = true ∧ Sim more c' d' := by
  obtain ⟨c1, t1, hc⟩ := hc
  obtain ⟨d1, t2, hd⟩ := hd
  have s1 := h.ticked h0 t1 t2
  rcases hc with ⟨hf, _, _⟩ | ⟨_, hf, hr⟩
  · cases hf
  · have hf2 : Fits d1 s at_ := ⟨hf.1, hf.2.1, hf.2.2.1, by have := hf.2.2.2; have := s1.mark; omega⟩
    rcases hd with ⟨_, _, hn⟩ | ⟨rfl, _, hr2⟩
    · exact absurd hf2 hn
    · refine ⟨rfl, Sim.rose (c := Heard' c1 s at_) (d := Heard' d1 s at_) h0 ⟨s1.slack, s1.idle, s1.now, ?_, s1.mark⟩ hr hr2⟩
      show put d1.src _ _ = put c1.src _ _
      rw [s1.src, s1.now]

theorem Sim.alone {more at_ now : Int} {c d c' : Ck} {s : ByteArray} (h : Sim more c d) (hc : Hears c s at_ now false c') : d.now = c'.now → Sim more c' d := by
  intro he
  obtain ⟨c1, t1, hc⟩ := hc
  rcases hc with ⟨_, rfl, _⟩ | ⟨hf, _, _⟩
  · have hs := t1.same
    exact ⟨by rw [hs.1]; exact h.slack, by rw [hs.2.1]; exact h.idle, he, by rw [hs.2.2.2.1]; exact h.src, by have := hs.2.2.2.2; have := h.mark; omega⟩
  · cases hf

theorem Sim.after {more at_ now : Int} {c d c' d' : Ck} {s : ByteArray} (h0 : 0 ≤ more) (h : Sim more c d) (hok : c'.Ok) (hc : Hears c s at_ now false c') (hd : Ticked d c'.now d') : Sim more c' d' := by
  obtain ⟨c1, t1, hc⟩ := hc
  rcases hc with ⟨_, rfl, _⟩ | ⟨hf, _, _⟩
  · have hs := t1.same
    have e1 : max d.now (bnd c'.now) = max c.now (bnd now) := by
      have h1 := hok.n0
      have h2 := hok.n1
      have h3 := hs.2.2.1
      have h4 := h.now
      rw [show bnd c'.now = c'.now from by unfold bnd; omega]
      omega
    refine Sim.rose (c := { c with now := max c.now (bnd now) }) (d := { d with now := max d.now (bnd c'.now) }) h0 ⟨h.slack, h.idle, e1, h.src, h.mark⟩ t1 hd
  · cases hf

theorem Sim.fresh {slack more idle : Int} (h0 : 0 ≤ slack) (h1 : slack ≤ 1073741824) (h2 : 0 ≤ more) (h3 : more ≤ 1073741824) : Sim more (fresh slack idle) (fresh (slack + more) idle) := by
  refine ⟨?_, rfl, rfl, rfl, Int.le_refl _⟩
  show bnd (slack + more) = bnd slack + more
  unfold bnd; omega

/-- The calls that came in read as ever. -/
theorem ActsAt.same {w w2 wr : World} {a : Option Addr} {l : List ActD} (h : ActsAt w2 w.heap.size a l) (h2 : Below w.heap.size w w2) (hr : Below w.heap.size w wr) : ActsAt wr w.heap.size a l := by
  intro i y hy
  obtain ⟨b, off, e1, e2, d0, d1, d2, d3⟩ := h i y hy
  have tr : ∀ o, wr.cell? ⟨b, o, none⟩ = w2.cell? ⟨b, o, none⟩ := fun o => (hr.cell (p := ⟨b, o, none⟩) e2).trans (h2.cell (p := ⟨b, o, none⟩) e2).symm
  exact ⟨b, off, e1, e2, (tr _).trans d0, (tr _).trans d1, (tr _).trans d2, (tr _).trans d3⟩


end Go.Proofs.YtobkgkiomapabaaGreatDoor
