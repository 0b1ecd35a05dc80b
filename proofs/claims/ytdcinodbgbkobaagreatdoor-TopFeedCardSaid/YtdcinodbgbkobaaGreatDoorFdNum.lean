/- feed.row's number; strings.Cut at a line feed, strings.Split at a blank. -/
import Derived.Test.YtdcinodbgbkobaaGreatDoorFdParS
import Derived.Test.YtdcinodbgbkobaaGreatDoorFdPrts
import Derived.Shelf.Strconv.ErrVarAll
import Derived.Test.YtdcinodbgbkobaaGreatDoorGa
namespace Go.Proofs.YtdcinodbgbkobaaGreatDoor
open Go.Shelf Go.RowKit Go.Maps
set_option linter.unusedVariables false

theorem cutN_any (s : ByteArray) (w : World) (hs : s.size < 4294967281) (hg : GlobAt w) :
    Calls Tryz.prog 21 #[.string s, .string ⟨#[10]⟩] w fun e w' => e = .returned (.tuple #[.string (headN s), .string (restN s), .bool (cutsN s)]) ∧ ∃ n, w' = w.drewN n := by
  obtain ⟨_, m, hm⟩ := hg
  exact Any.strings_Cut { Tryz.laysCut with } s ⟨#[10]⟩ m w hs hm
theorem splitS_any (s : ByteArray) (w : World) (hs : s.size < 4294967281) (hg : GlobAt w) :
    Calls Tryz.prog 55 #[.string s, .string ⟨#[32]⟩] w fun e w' => e = .returned (.slice (some ⟨w.heap.size, 0, none⟩) (partsS s).length (partsS s).length) ∧ w' = w.alloc (.cells ((partsS s).map Value.string).toArray 9) := by
  obtain ⟨_, m, hm⟩ := hg
  rw [partsS_len]
  exact Any.strings_Split { Tryz.laysSplit with } Tryz.laysSplit.i9 s ⟨#[32]⟩ m w hs hm (by decide)
/-- The library's two errors are there. -/
def VarIs (w : World) (n : String) : Prop := ∃ tp p, w.var? Tryz.prog n = some #[.iface tp p]
def ErrAt (w : World) : Prop := VarIs w "strconv.ErrSyntax" ∧ VarIs w "strconv.ErrRange"
theorem VarIs.keep {w w' : World} {n : String} (h : VarIs w n) (hb : Below w.heap.size w w') : VarIs w' n := by
  obtain ⟨tp, p, h⟩ := h
  refine ⟨tp, p, ?_⟩
  unfold World.var? at *
  cases hg : Tryz.prog.globalNamed n with
  | none => simp [hg] at h
  | some g =>
    simp only [hg, Option.bind_some] at h ⊢
    have hlt : g < w.heap.size := by
      rcases Nat.lt_or_ge g w.heap.size with h' | h'
      · exact h'
      · rw [Array.getElem?_eq_none h'] at h; simp at h
    rw [hb.block g hlt]
    exact h
theorem ErrAt.keep {w w' : World} (h : ErrAt w) (hb : Below w.heap.size w w') : ErrAt w' := ⟨h.1.keep hb, h.2.keep hb⟩
/-- What Atoi makes of a word. -/
def AtoiR (s : ByteArray) (v : Int) (ok : Bool) : Prop := InI v ∧ (ok = true → Lib.atoiAll s.data.toList = .ok v) ∧ (ok = false → ∀ z, Lib.atoiAll s.data.toList ≠ .ok z)
def AtoiE (s : ByteArray) (e : Ending) : Prop := (∃ v, e = .returned (.tuple #[.int .i64 v, .nilIface]) ∧ AtoiR s v true) ∨ ∃ v t N, e = .returned (.tuple #[.int .i64 v, .iface t (.pointer (some ⟨N, 0, none⟩))]) ∧ AtoiR s v false
theorem atoi_any (s : ByteArray) (w : World) (hs : s.size ≤ 1000000) (he : ErrAt w) : Calls Tryz.prog 57 #[.string s] w fun e w' => AtoiE s e ∧ Below w.heap.size w w' := by
  cases h : Lib.atoiAll s.data.toList
  · rename_i v
    refine Calls.mono (Any.strconv_Atoi_ok Tryz.laysC172 s (by omega) v h w) ?_
    rintro e w' ⟨rfl, hw⟩
    refine ⟨Or.inl ⟨v, rfl, Lib.atoiAll_bounds h, fun _ => h, fun h => by cases h⟩, ?_⟩
    rcases hw with rfl | ⟨t, rfl⟩
    · exact Below.refl _ _
    · exact Lib.bytesWorld_below _ _ _
  · obtain ⟨⟨tp, p, hv⟩, _⟩ := he
    refine Calls.mono (Any.strconv_Atoi_syntax_var Tryz.laysC172 s (by omega) h tp p w hv) ?_
    rintro e w' ⟨N, rfl, _, _, hb⟩
    exact ⟨Or.inr ⟨0, _, N, rfl, ⟨by decide, by decide⟩, fun h => (by cases h), fun _ z hz => by rw [h] at hz; cases hz⟩, hb⟩
  · obtain ⟨_, tp, p, hv⟩ := he
    refine Calls.mono (Any.strconv_Atoi_range_var Tryz.laysC172 s (by omega) h tp p w hv) ?_
    rintro e w' ⟨N, rfl, _, _, hb⟩
    exact ⟨Or.inr ⟨_, _, N, rfl, Lib.atoiSat_bounds _, fun h => (by cases h), fun _ z hz => by rw [h] at hz; cases hz⟩, hb⟩
/-- What the closure hands back. -/
def NumPost (s : ByteArray) (b0 : Bool) (ob : Nat) (w : World) (e : Ending) (w' : World) : Prop := ∃ v ok, e = .returned (.int .i64 v) ∧ AtoiR s v ok ∧ Blk w' ob 4 #[.bool (b0 && ok)] ∧ Kept (fun q => q = ob) w w'
set_option maxHeartbeats 2000000 in
set_option maxRecDepth 100000 in
theorem rownum_any (s : ByteArray) (w : World) (ob : Nat) (b0 : Bool) (hs : s.size ≤ 1000000) (hb : Blk w ob 4 #[.bool b0]) (he : ErrAt w) :
    Calls Tryz.prog 56 #[.string s, .pointer (some ⟨ob, 0, none⟩)] w fun e w' => NumPost s b0 ob w e w' := by
  have HA := Lib.hid (atoi_any s w hs he)
  have HB := Lib.hid hb
  clear hb he
  go_enter Tryz.func56, Tryz.ntmps56
  go_wp2_with fail
  refine HA.out.mono ?_
  rintro e w1 ⟨hae, hb1⟩
  have HB1 := Lib.hid hb1
  have HK1 : Hid (Blk w1 ob 4 #[.bool b0]) := Lib.hid (HB.out.kept (below_kept (S := fun _ => False) hb1 (Nat.le_refl _)) (fun h => h))
  have c0 : w1.cell? ⟨ob, 0, none⟩ = some (.bool b0) := HK1.out.cell 0
  have z0 : w1.frozen? ⟨ob, 0, none⟩ = false := HK1.out.frozen 0
  have HP : Hid (∀ v ok, AtoiR s v ok → NumPost s b0 ob w (.returned (.int .i64 v)) (w1.setCell ⟨ob, 0, none⟩ (.bool (b0 && ok)))) := Lib.hid (fun v ok h => ⟨v, ok, rfl, h, HK1.out.set_ 0 _, ((below_kept (S := fun q => q = ob) hb1 (Nat.le_refl _))).setCell (p := ⟨ob, 0, none⟩) (Or.inl rfl) _⟩)
  clear hb1 HA HB HB1 HK1
  rcases hae with ⟨v, rfl, hr⟩ | ⟨v, t, N, rfl, hr⟩
  · have HR := Lib.hid (HP.out v true hr)
    clear HP hr
    cases b0
    · go_wp2_with fail
      go_ret
      exact HR.out
    · go_wp2_with fail
      go_ret
      exact HR.out
  · have HR := Lib.hid (HP.out v false hr)
    clear HP hr
    cases b0
    · go_wp2_with fail
      go_ret
      exact HR.out
    · go_wp2_with fail
      go_ret
      exact HR.out

/-- A struct that a result names, and a number. -/
theorem results_ct {fn : Func} {t u : Tmp} {ty : TypeId} {v : Value} {rb : Nat} {tmps : Array Value} {w : World} (h : fn.results = #[.cell t ty, .tmp u]) (hp : tmps.getD t undef = .pointer (some ⟨rb, 0, none⟩)) (hl : (loadVar ty ⟨rb, 0, none⟩).run Tryz.prog w = .ok v w) :
    (results fn tmps).run Tryz.prog w = .ok (.tuple #[v, tmps.getD u undef]) w := by
  have hp' : tmps[t]?.getD undef = .pointer (some ⟨rb, 0, none⟩) := by simpa using hp
  simp [results, h, hp', asAddr, hl]
theorem load_item {w : World} {rb : Nat} {x : It} (h : Blk w rb 47 (itArr x)) : (loadVar 47 ⟨rb, 0, none⟩).run Tryz.prog w = .ok (itA x) w := by
  have c0 := h.cell 0; have c1 := h.cell 1; have c2 := h.cell 2; have c3 := h.cell 3; have c4 := h.cell 4; have c5 := h.cell 5; have c6 := h.cell 6
  simp [itArr] at c0 c1 c2 c3 c4 c5 c6
  unfold itA loadVar
  go_simp

end Go.Proofs.YtdcinodbgbkobaaGreatDoor
