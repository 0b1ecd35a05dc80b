/- An argument that is a slice of texts, opened. -/
import Derived.Test.YthdmpcnnbminlaaGreatDoorBt
namespace Go.Proofs.YthdmpcnnbminlaaGreatDoor
open Go.ChangeShapes Go.WideShapes Go.Deep Go.Shelf Go.RowKit Go.Maps
set_option linter.unusedVariables false
def SsArg (w : World) (A : Option Addr) (n c : Nat) (l : List ByteArray) : Prop := l.length = n ∧ RowIn w w.heap.size 1 A n (l.map .string) ∧ n ≤ 140737488355328 ∧ ∀ x ∈ l, x.size ≤ 281474976710656
theorem strs_of {H : Type} {enc : TypeId × Value → H} {w : World} {spare : Nat → Bool} {held : Bool} {base fuel : Nat} {a : Option Addr} {len cap : Nat} {x : DataW H × List MemPlace}
  (h : DataW.trod enc Tryz.prog w base spare held fuel 50 [.slice a len cap] = some x) (hw : ∀ n ∈ x.1.weights Tryz.prog 50, n ≤ reachBytes) : ∃ l : List ByteArray, SsArg w a len cap l := by
 rcases open_slice (e := 9) Tryz.underlying50 h with ⟨hcs, _⟩ | ⟨ad, n, c, m, n', D, Pl, hcs, _, hl, hm, hmm, hx, hi⟩
 ·simp at hcs
  obtain ⟨rfl, rfl, rfl⟩ := hcs
  exact ⟨[], rfl, ⟨rfl, Or.inl rfl⟩, Nat.zero_le _, fun x hx => by cases hx⟩
 ·simp at hcs
  obtain ⟨rfl, rfl, rfl⟩ := hcs
  have hlm : len ≤ m := by rw [hmm]; split <;> omega
  have hbo : Tryz.prog.bytesOf 9 = 16 := by kernel_rfl
  have hlen : len ≤ 140737488355328 := by
   have h1 := hw ((len + (m - len)) * 16) (by rw [hx]; simp [DataW.weights, Tryz.underlying50, hbo])
   unfold reachBytes at h1
   omega
  have hcell : ∀ i, i < len → ∃ z : ByteArray, w.cell? (ad.add i) = some (.string z) ∧ z.size ≤ 281474976710656 := by
   intro i hil
   obtain ⟨cs', hc, ht'⟩ := hi i (by omega)
   have hC : Tryz.prog.cellsOf 9 = 1 := by kernel_rfl
   rw [hC] at hc
   obtain ⟨_, hcl, hat⟩ := World.cells?_some hc
   obtain ⟨z, hz, hd, _⟩ := DataW.trod_string Tryz.underlying9 ht'
   subst hz
   have hin : D i ∈ (List.range len).map D := List.mem_map.2 ⟨i, List.mem_range.2 hil, rfl⟩
   have h3 := hw z.data.toList.length (by
    rw [hx]
    simp only [DataW.weights, Tryz.underlying50, List.mem_cons, List.mem_append]
    refine Or.inr (Or.inl (mem_weightsAll (d := D i) ?_ hin))
    have hd' : D i = .lit (.string z.data.toList) := (Prod.mk.inj hd).1
    rw [hd']
    simp [DataW.weights])
   have e : z.data.toList.length = z.size := by simp
   rw [e] at h3
   unfold reachBytes at h3
   refine ⟨z, ?_, by omega⟩
   have := hat 0 (by omega)
   simpa [Addr.add] using this
  obtain ⟨l, h1, h2⟩ := list_of (α := ByteArray) (p := fun i x => w.cell? (ad.add i) = some (.string x) ∧ x.size ≤ 281474976710656) len (fun i hil => hcell i hil)
  refine ⟨l, h1, ⟨by simp [h1], ?_⟩, hlen, fun x hx => ?_⟩
  ·rcases Nat.eq_zero_or_pos len with h0 | h0
   ·exact Or.inl h0
   ·right
    obtain ⟨z0, hz0, _⟩ := hcell 0 (by omega)
    have hsp : ad.spot = none := World.cell?_spot (by simpa [Addr.add] using hz0)
    obtain ⟨b, off, spot⟩ := ad
    have hs2 : spot = none := hsp
    subst hs2
    rw [add_none] at hz0
    refine ⟨b, off, rfl, cell_lt (a := ⟨b, _, none⟩) hz0, fun j u hu => ?_⟩
    rw [List.getElem?_map] at hu
    cases hx : l[j]? with
    | none => rw [hx] at hu; cases hu
    | some z =>
     rw [hx] at hu
     simp at hu
     have := (h2 j z hx).1
     rw [add_none] at this
     rw [this, hu]
  ·obtain ⟨j, hj⟩ := List.mem_iff_getElem?.1 hx
   exact (h2 j x hj).2
end Go.Proofs.YthdmpcnnbminlaaGreatDoor
