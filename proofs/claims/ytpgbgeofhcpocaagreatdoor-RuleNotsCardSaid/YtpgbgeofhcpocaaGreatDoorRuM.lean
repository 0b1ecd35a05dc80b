/- The rule's parser in memory: next, take, fail. -/
import Derived.Test.YtpgbgeofhcpocaaGreatDoorRuP
import Derived.Test.YtpgbgeofhcpocaaGreatDoorPlanT
import Derived.Test.YtpgbgeofhcpocaaGreatDoorPlanN
import Derived.Test.YtpgbgeofhcpocaaGreatDoorStore
import Derived.Deep.DeepCutAuto
import Derived.Deep.CutBlock
namespace Go.Proofs.YtpgbgeofhcpocaaGreatDoor
open Go.RowKit Go.Maps
set_option linter.unusedVariables false
variable {L : Nat}

theorem below_drew {B : Nat} {a w : World} (h : Below B a w) : Below B a w.drew := h.trans ⟨rfl, rfl, rfl, Nat.le_refl _, fun _ _ => rfl⟩
theorem below_drewN {B : Nat} {a w : World} (h : Below B a w) (q : Nat) : Below B a (w.drewN q) := h.trans ⟨rfl, rfl, rfl, Nat.le_refl _, fun _ _ => rfl⟩
def tkC (t : Tk) : List Value := [.string t.1, .int .i64 t.2]
theorem tkC_len (t : Tk) : (tkC t).length = 2 := rfl
/-- The texts of tokens. -/
def tx (ts : List Tk) : List ByteArray := ts.map Prod.fst
def place (ts : List Tk) (en : Nat) : Nat := match ts with | [] => en | t :: _ => t.2
structure PsIn (w : World) (pb L : Nat) (A : Option Addr) (n c : Nat) (ts : List Tk) (en d : Nat) (bad : Bool) (at_ : Nat) : Prop where
  blk : Blk w pb 47 #[.slice A n c, .int .i64 en, .int .i64 d, .bool bad, .int .i64 at_]
  row : RowIn w w.heap.size 2 A n (ts.flatMap tkC)
  len : ts.length = n
  cap : n ≤ c
  far : ∀ g o, A = some ⟨g, o, none⟩ → g ≠ pb ∧ g < L
/-- The parser lies in block pb: the tokens that are left, the text's end, how deep, whether it is bad, where. -/
def PsAt (w : World) (pb L : Nat) (ts : List Tk) (en d : Nat) (bad : Bool) (at_ : Nat) : Prop := ∃ A n c, PsIn w pb L A n c ts en d bad at_
theorem PsIn.keep {w w' : World} {pb n c en d at_ : Nat} {A : Option Addr} {ts : List Tk} {bad : Bool} (h : PsIn w pb L A n c ts en d bad at_) (hs : w.heap.size ≤ w'.heap.size) (hb : ∀ i, i < w.heap.size → w'.heap[i]? = w.heap[i]?) : PsIn w' pb L A n c ts en d bad at_ := by
  refine ⟨(hb pb h.blk.lt).trans h.blk, ⟨h.row.1, ?_⟩, h.len, h.cap, h.far⟩
  rcases h.row.2 with h0 | ⟨b, off, e, hbl, hc⟩
  · exact Or.inl h0
  · refine Or.inr ⟨b, off, e, by omega, fun j u hu => ?_⟩
    exact (World.cell?_of_block (hb b hbl)).trans (hc j u hu)
theorem PsAt.below {w w' : World} {pb en d at_ : Nat} {ts : List Tk} {bad : Bool} (h : PsAt w pb L ts en d bad at_) (k : Below w.heap.size w w') : PsAt w' pb L ts en d bad at_ := by
  obtain ⟨A, n, c, h⟩ := h
  exact ⟨A, n, c, h.keep k.size (fun i hi => k.block i hi)⟩
theorem PsAt.lt {w : World} {pb en d at_ : Nat} {ts : List Tk} {bad : Bool} (h : PsAt w pb L ts en d bad at_) : pb < w.heap.size := by
  obtain ⟨A, n, c, h⟩ := h
  exact h.blk.lt
/-- A number of the parser is set. -/
theorem PsIn.set {w : World} {pb n c en d at_ en' d' at' : Nat} {A : Option Addr} {ts : List Tk} {bad bad' : Bool} (h : PsIn w pb L A n c ts en d bad at_) (i : Nat) (u : Value) (hc : (#[.slice A n c, .int .i64 en, .int .i64 d, .bool bad, .int .i64 at_] : Array Value).setIfInBounds i u = #[.slice A n c, .int .i64 en', .int .i64 d', .bool bad', .int .i64 at']) : PsIn (w.setCell ⟨pb, i, none⟩ u) pb L A n c ts en' d' bad' at' := by
  refine ⟨by rw [← hc]; exact h.blk.set_ i u, ⟨h.row.1, ?_⟩, h.len, h.cap, h.far⟩
  rcases h.row.2 with h0 | ⟨b, off, e, hbl, hcc⟩
  · exact Or.inl h0
  · refine Or.inr ⟨b, off, e, by simpa [World.setCell] using hbl, fun j u' hu => ?_⟩
    exact (World.cell?_of_block (Below.heap_setCell w ⟨pb, i, none⟩ u b (h.far b off e).1)).trans (hcc j u' hu)
theorem PsIn.at {w : World} {pb n c en d at_ : Nat} {A : Option Addr} {t : Tk} {r : List Tk} {bad : Bool} (h : PsIn w pb L A n c (t :: r) en d bad at_) : ∃ g o, A = some ⟨g, o, none⟩ ∧ g ≠ pb ∧ g < w.heap.size ∧ w.cell? ⟨g, o, none⟩ = some (.string t.1) ∧ w.cell? ⟨g, o + 1, none⟩ = some (.int .i64 t.2) := by
  obtain ⟨g, o, e, hg, hc⟩ := h.row.at (by have := h.len; simp at this; omega)
  exact ⟨g, o, e, (h.far g o e).1, hg, hc 0 _ rfl, hc 1 _ rfl⟩
/-- The next text is taken. -/
theorem PsIn.drop {w : World} {pb n c en d at_ : Nat} {A : Option Addr} {t : Tk} {r : List Tk} {bad : Bool} (h : PsIn w pb L A n c (t :: r) en d bad at_) : PsIn (w.setCell ⟨pb, 0, none⟩ (.slice (if c = 1 then A else A.map (·.add 2)) (n - 1) (c - 1))) pb L (if c = 1 then A else A.map (·.add 2)) (n - 1) (c - 1) r en d bad at_ := by
  obtain ⟨g, o, rfl, hg, hgl, _⟩ := h.at
  have hgL := (h.far g o rfl).2
  have hcut := h.row.cut (k := 1) (cap := c) (by have := h.len; simp at this; omega) h.cap
  rw [flat_drop tkC 2 tkC_len, List.drop_one, List.tail_cons] at hcut
  refine ⟨h.blk.set_ 0 _, ⟨hcut.1, ?_⟩, by have := h.len; simp at this; omega, by have := h.cap; omega, fun g' o' e => ?_⟩
  · rcases hcut.2 with h0 | ⟨b, off, e, hbl, hcc⟩
    · exact Or.inl h0
    · refine Or.inr ⟨b, off, e, by simpa [World.setCell] using hbl, fun j u' hu => ?_⟩
      have hb : b = g := by
        split at e
        · injection e with e; injection e with e; exact e.symm
        · simp only [Option.map_some, at_add] at e; injection e with e; injection e with e; exact e.symm
      exact (World.cell?_of_block (Below.heap_setCell w ⟨pb, 0, none⟩ _ b (by rw [hb]; exact hg))).trans (hcc j u' hu)
  · split at e
    · injection e with e; injection e with e; rw [← e]; exact ⟨hg, hgL⟩
    · simp only [Option.map_some, at_add] at e; injection e with e; injection e with e; rw [← e]; exact ⟨hg, hgL⟩

theorem next_bad (pb en d at_ : Nat) (ts : List Tk) (w : World) (h : PsAt w pb L ts en d true at_) :
    Calls Tryz.prog 20 #[.pointer (some ⟨pb, 0, none⟩)] w fun e w' => e = .returned (.string ⟨#[]⟩) ∧ Below w.heap.size w w' := by
  obtain ⟨A, n, c, h⟩ := h
  have c3 : w.cell? ⟨pb, 3, none⟩ = some (.bool true) := h.blk.cell 3
  clear h
  go_enter Tryz.func20, Tryz.ntmps20
  go_wp2_with fail
  go_ret
  exact ⟨rfl, Below.refl _ _⟩
theorem next_any (pb en d at_ : Nat) (ts : List Tk) (w : World) (h : PsAt w pb L ts en d false at_) :
    Calls Tryz.prog 20 #[.pointer (some ⟨pb, 0, none⟩)] w fun e w' => e = .returned (.string (hd (tx ts))) ∧ Below w.heap.size w w' := by
  obtain ⟨A, n, c, h⟩ := h
  have c3 : w.cell? ⟨pb, 3, none⟩ = some (.bool false) := h.blk.cell 3
  have c0 : w.cell? ⟨pb, 0, none⟩ = some (.slice A n c) := h.blk.cell 0
  have hl := h.len
  cases ts with
  | nil =>
    simp only [List.length_nil] at hl
    subst hl
    clear h
    go_enter Tryz.func20, Tryz.ntmps20
    go_wp2_with fail
    go_ret
    exact ⟨rfl, Below.refl _ _⟩
  | cons t r =>
    obtain ⟨g, o, rfl, hg, _, e0, _⟩ := h.at
    have hn : ((n : Int) == 0) = false := by simp only [List.length_cons] at hl; simp; omega
    have hn2 : (0 : Int) < (n : Int) := by simp only [List.length_cons] at hl; omega
    clear h hl
    go_enter Tryz.func20, Tryz.ntmps20
    go_wp2_with fail
    go_ret
    exact ⟨rfl, Below.refl _ _⟩
theorem take_any (pb en d at_ : Nat) (t : Tk) (r : List Tk) (w : World) (h : PsAt w pb L (t :: r) en d false at_) :
    Calls Tryz.prog 21 #[.pointer (some ⟨pb, 0, none⟩)] w fun e w' => e = .returned (.tuple #[]) ∧ PsAt w' pb L r en d false at_ ∧ Kept (fun i => i = pb) w w' := by
  obtain ⟨A, n, c, h⟩ := h
  have c0 : w.cell? ⟨pb, 0, none⟩ = some (.slice A n c) := h.blk.cell 0
  have f0 : w.frozen? ⟨pb, 0, none⟩ = false := h.blk.frozen 0
  have hl := h.len
  have hcap := h.cap
  have H := Lib.hid h.drop
  have hn2 : (1 : Int) ≤ (n : Int) := by simp only [List.length_cons] at hl; omega
  have hK : Hid (Kept (fun i => i = pb) w (w.setCell ⟨pb, 0, none⟩ (.slice (if c = 1 then A else A.map (·.add 2)) (n - 1) (c - 1)))) := Lib.hid ((Kept.refl (fun i => i = pb) w).setCell (p := ⟨pb, 0, none⟩) (Or.inl rfl) _)
  clear h hl
  by_cases hc1 : c = 1
  · subst hc1
    obtain rfl : n = 1 := by omega
    rw [if_pos rfl] at H hK
    go_enter Tryz.func21, Tryz.ntmps21
    go_wp2_with fail
    go_end0
    exact ⟨rfl, ⟨_, _, _, H.out⟩, hK.out⟩
  · rw [if_neg hc1] at H hK
    go_enter Tryz.func21, Tryz.ntmps21
    go_wp2_with fail
    go_end0
    exact ⟨rfl, ⟨_, _, _, H.out⟩, hK.out⟩
set_option maxRecDepth 100000 in
theorem fail_any (pb en d at_ : Nat) (ts : List Tk) (w : World) (h : PsAt w pb L ts en d false at_) :
    Calls Tryz.prog 13 #[.pointer (some ⟨pb, 0, none⟩)] w fun e w' => e = .returned .nilIface ∧ PsAt w' pb L ts en d true (place ts en) ∧ Kept (fun i => i = pb) w w' := by
  obtain ⟨A, n, c, h⟩ := h
  have c3 : w.cell? ⟨pb, 3, none⟩ = some (.bool false) := h.blk.cell 3
  have c1 : w.cell? ⟨pb, 1, none⟩ = some (.int .i64 en) := h.blk.cell 1
  have c4 : w.cell? ⟨pb, 4, none⟩ = some (.int .i64 at_) := h.blk.cell 4
  have f3 : w.frozen? ⟨pb, 3, none⟩ = false := h.blk.frozen 3
  have h1 := h.set (bad' := true) (at' := at_) (en' := en) (d' := d) 3 (.bool true) (by simp)
  have f4 : (w.setCell ⟨pb, 3, none⟩ (.bool true)).frozen? ⟨pb, 4, none⟩ = false := h1.blk.frozen 4
  have h2 := h1.set (bad' := true) (at' := en) (en' := en) (d' := d) 4 (.int .i64 en) (by simp)
  obtain ⟨w2, hw2⟩ : ∃ w2, (w.setCell ⟨pb, 3, none⟩ (.bool true)).setCell ⟨pb, 4, none⟩ (.int .i64 en) = w2 := ⟨_, rfl⟩
  have HK2 : Hid (Kept (fun i => i = pb) w w2) := Lib.hid (by rw [← hw2]; exact ((Kept.refl (fun i => i = pb) w).setCell (p := ⟨pb, 3, none⟩) (Or.inl rfl) _).setCell (p := ⟨pb, 4, none⟩) (Or.inl rfl) _)
  rw [hw2] at h2
  have k0 : w2.cell? ⟨pb, 0, none⟩ = some (.slice A n c) := h2.blk.cell 0
  have hl := h.len
  clear h h1
  cases ts with
  | nil =>
    simp only [List.length_nil] at hl
    subst hl
    have H2 := Lib.hid h2
    clear h2
    go_enter Tryz.func13, Tryz.ntmps13
    go_upto_region 3 with fail
    clear hw2 c3 c1 c4 f3 f4
    go_wp2_with fail
    go_ret
    exact ⟨rfl, ⟨A, _, c, H2.out⟩, HK2.out⟩
  | cons t r =>
    obtain ⟨g, o, rfl, hg, _, _, e1⟩ := h2.at
    have hn2 : (0 : Int) < (n : Int) := by simp only [List.length_cons] at hl; omega
    have c4' : w2.cell? ⟨pb, 4, none⟩ = some (.int .i64 en) := h2.blk.cell 4
    have f4' : w2.frozen? ⟨pb, 4, none⟩ = false := h2.blk.frozen 4
    have H3 := Lib.hid (h2.set (bad' := true) (at' := t.2) (en' := en) (d' := d) 4 (.int .i64 t.2) (by simp))
    have HK3 : Hid (Kept (fun i => i = pb) w (w2.setCell ⟨pb, 4, none⟩ (.int .i64 t.2))) := Lib.hid (HK2.out.setCell (p := ⟨pb, 4, none⟩) (Or.inl rfl) _)
    clear h2 hl
    go_enter Tryz.func13, Tryz.ntmps13
    go_upto_region 3 with fail
    clear hw2 c3 c1 c4 f3 f4
    go_wp2_with fail
    go_ret
    exact ⟨rfl, ⟨_, n, c, H3.out⟩, HK3.out⟩
end Go.Proofs.YtpgbgeofhcpocaaGreatDoor
