/- The facts that a law is handed, opened. -/
import Derived.Test.YtpgbgeofhcpocaaGreatDoorRuHo
import Derived.ChangeMaps5
import Derived.ChangeSame
import Derived.ChangeArms
import Derived.RowKit
namespace Go.Proofs.YtpgbgeofhcpocaaGreatDoor
open Go.ChangeShapes Go.WideShapes Go.RowKit
set_option linter.unusedVariables false

section
variable {H : Type} {enc : TypeId × Value → H} {w : World} {base : Nat} {spare : Nat → Bool} {held : Bool}
theorem list12 {α : Type} {l : List α} (h : l.length = 12) : ∃ a0 a1 a2 a3 a4 a5 a6 a7 a8 a9 a10 a11, l = [a0, a1, a2, a3, a4, a5, a6, a7, a8, a9, a10, a11] := by
  match l, h with
  | [a0, a1, a2, a3, a4, a5, a6, a7, a8, a9, a10, a11], _ => exact ⟨a0, a1, a2, a3, a4, a5, a6, a7, a8, a9, a10, a11, rfl⟩
theorem some_get {α : Type} {l : List α} {i n : Nat} (h : l.length = n) (hi : i < n) : ∃ y, l[i]? = some y := ⟨_, List.getElem?_eq_getElem (by omega)⟩
set_option maxRecDepth 100000 in
theorem open_facts {r : Reach} {b0 : Nat} {v : Value} {d : DataW H} {p : List MemPlace} (hv : Value.okWide Tryz.prog w r b0 FAC v) (h : DataW.Trod enc Tryz.prog w base spare held FAC v d p) : ∃ z : Fz, v = .agg (fzA z) := by
  obtain ⟨cs, rfl, hsz⟩ := okWide_struct Tryz.underlying25 hv
  have hsz12 : cs.size = 12 := hsz.trans (by kernel_rfl)
  obtain ⟨l⟩ := cs
  have hl : l.length = 12 := hsz12
  clear hsz hsz12 hv
  obtain ⟨a0, a1, a2, a3, a4, a5, a6, a7, a8, a9, a10, a11, rfl⟩ := list12 hl
  clear hl
  obtain ⟨fuel, hf⟩ := h
  obtain ⟨xs, n, _, _, _, hlen, hfs⟩ := DataW.trod_struct Tryz.underlying25 hf
  have hlen6 : xs.length = 6 := hlen
  obtain ⟨y1, hy1⟩ := some_get (i := 1) hlen6 (by omega)
  have g1 := hfs 1 _ rfl
  rw [hy1] at g1
  obtain ⟨m1, e1, _, _⟩ := DataW.trod_int Tryz.underlying3 g1
  have e1' : [a7] = [.int .i64 m1] := e1
  obtain rfl : a7 = .int .i64 m1 := by injection e1'
  obtain ⟨y2, hy2⟩ := some_get (i := 2) hlen6 (by omega)
  have g2 := hfs 2 _ rfl
  rw [hy2] at g2
  obtain ⟨m2, e2, _, _⟩ := DataW.trod_int Tryz.underlying3 g2
  have e2' : [a8] = [.int .i64 m2] := e2
  obtain rfl : a8 = .int .i64 m2 := by injection e2'
  obtain ⟨y3, hy3⟩ := some_get (i := 3) hlen6 (by omega)
  have g3 := hfs 3 _ rfl
  rw [hy3] at g3
  obtain ⟨m3, e3, _, _⟩ := DataW.trod_int Tryz.underlying3 g3
  have e3' : [a9] = [.int .i64 m3] := e3
  obtain rfl : a9 = .int .i64 m3 := by injection e3'
  obtain ⟨y4, hy4⟩ := some_get (i := 4) hlen6 (by omega)
  have g4 := hfs 4 _ rfl
  rw [hy4] at g4
  obtain ⟨m4, e4, _⟩ := DataW.trod_bool Tryz.underlying4 g4
  have e4' : [a10] = [.bool m4] := e4
  obtain rfl : a10 = .bool m4 := by injection e4'
  obtain ⟨y5, hy5⟩ := some_get (i := 5) hlen6 (by omega)
  have g5 := hfs 5 _ rfl
  rw [hy5] at g5
  obtain ⟨m5, e5, _⟩ := DataW.trod_bool Tryz.underlying4 g5
  have e5' : [a11] = [.bool m5] := e5
  obtain rfl : a11 = .bool m5 := by injection e5'
  obtain ⟨y0, hy0⟩ := some_get (i := 0) hlen6 (by omega)
  have g0 := hfs 0 _ rfl
  rw [hy0] at g0
  obtain ⟨us, nn, _, _, _, hlen2, hfs2⟩ := DataW.trod_struct Tryz.underlying23 g0
  have hlen7 : us.length = 7 := hlen2
  obtain ⟨z0, hz0⟩ := some_get (i := 0) hlen7 (by omega)
  have k0 := hfs2 0 _ rfl
  rw [hz0] at k0
  obtain ⟨n0, f0, _, _⟩ := DataW.trod_string Tryz.underlying9 k0
  have f0' : [a0] = [.string n0] := f0
  obtain rfl : a0 = .string n0 := by injection f0'
  obtain ⟨z1, hz1⟩ := some_get (i := 1) hlen7 (by omega)
  have k1 := hfs2 1 _ rfl
  rw [hz1] at k1
  obtain ⟨n1, f1, _, _⟩ := DataW.trod_string Tryz.underlying9 k1
  have f1' : [a1] = [.string n1] := f1
  obtain rfl : a1 = .string n1 := by injection f1'
  obtain ⟨z2, hz2⟩ := some_get (i := 2) hlen7 (by omega)
  have k2 := hfs2 2 _ rfl
  rw [hz2] at k2
  obtain ⟨n2, f2, _, _⟩ := DataW.trod_string Tryz.underlying9 k2
  have f2' : [a2] = [.string n2] := f2
  obtain rfl : a2 = .string n2 := by injection f2'
  obtain ⟨z3, hz3⟩ := some_get (i := 3) hlen7 (by omega)
  have k3 := hfs2 3 _ rfl
  rw [hz3] at k3
  obtain ⟨n3, f3, _, _⟩ := DataW.trod_int Tryz.underlying3 k3
  have f3' : [a3] = [.int .i64 n3] := f3
  obtain rfl : a3 = .int .i64 n3 := by injection f3'
  obtain ⟨z4, hz4⟩ := some_get (i := 4) hlen7 (by omega)
  have k4 := hfs2 4 _ rfl
  rw [hz4] at k4
  obtain ⟨n4, f4, _, _⟩ := DataW.trod_int Tryz.underlying3 k4
  have f4' : [a4] = [.int .i64 n4] := f4
  obtain rfl : a4 = .int .i64 n4 := by injection f4'
  obtain ⟨z5, hz5⟩ := some_get (i := 5) hlen7 (by omega)
  have k5 := hfs2 5 _ rfl
  rw [hz5] at k5
  obtain ⟨n5, f5, _, _⟩ := DataW.trod_int Tryz.underlying3 k5
  have f5' : [a5] = [.int .i64 n5] := f5
  obtain rfl : a5 = .int .i64 n5 := by injection f5'
  obtain ⟨z6, hz6⟩ := some_get (i := 6) hlen7 (by omega)
  have k6 := hfs2 6 _ rfl
  rw [hz6] at k6
  obtain ⟨n6, f6, _⟩ := DataW.trod_bool Tryz.underlying4 k6
  have f6' : [a6] = [.bool n6] := f6
  obtain rfl : a6 = .bool n6 := by injection f6'
  exact ⟨⟨n0, n1, n2, n3, n4, n5, n6, m1, m2, m3, m4, m5⟩, rfl⟩
end
theorem cell_lt {w : World} {a : Addr} {v : Value} (h : w.cell? a = some v) : a.block < w.heap.size := by
  rcases Nat.lt_or_ge a.block w.heap.size with h1 | h1
  · exact h1
  · unfold World.cell? at h
    rw [Array.getElem?_eq_none h1] at h
    simp at h
/-- internal/bytealg.MaxLen holds an int, whatever it is. -/
theorem glob_of {W : World} (h : W.ShapedOpen Tryz.prog) : GlobAt W := by
  obtain ⟨m, hm⟩ := Tryz.laysSplit.s1_3 W h
  exact ⟨cell_lt (a := ⟨0, 0, none⟩) hm, m, hm⟩
end Go.Proofs.YtpgbgeofhcpocaaGreatDoor
