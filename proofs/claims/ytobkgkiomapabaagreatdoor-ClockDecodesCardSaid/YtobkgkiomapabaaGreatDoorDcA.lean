/- The document's clock: what it holds, and its small functions: held, New, Name, active. -/
import Derived.Test.YtobkgkiomapabaaGreatDoorEncode
import Derived.Test.YtobkgkiomapabaaGreatDoorPlanT
import Derived.Test.YtobkgkiomapabaaGreatDoorPlanN
import Derived.Test.YtobkgkiomapabaaGreatDoorStore
import Derived.Laws.RangeString
import Derived.Laws.RangeAny
import Derived.Sort.Walk0
namespace Go.Proofs.YtobkgkiomapabaaGreatDoor
open Go.RowKit Go.Maps Go.Shelf
set_option linter.unusedVariables false

/-! ### texts -/
def ltN (a b : ByteArray) : Prop := a.data.toList < b.data.toList
theorem ltN_irr (a : ByteArray) : ¬ ltN a a := List.lt_irrefl _
theorem ltN_trans {a b c : ByteArray} (h : ltN a b) (k : ltN b c) : ltN a c := List.lt_trans h k
theorem ba_eq {a b : ByteArray} (h : a.data.toList = b.data.toList) : a = b := by
  cases a; cases b
  exact congrArg _ (Array.toList_inj.1 h)
theorem ltN_of {a b : ByteArray} (h : ¬ ltN a b) (hne : a ≠ b) : ltN b a := by
  rcases List.le_total b.data.toList a.data.toList with h1 | h1
  · exact Std.lt_of_le_of_ne h1 (fun e => hne (ba_eq e.symm))
  · exact absurd (Std.lt_of_le_of_ne h1 (fun e => hne (ba_eq e))) h
theorem less_iff (a b : ByteArray) : Op.bytesLess a.toList b.toList = true ↔ ltN a b := by
  rw [bytesLess_eq, decide_eq_true_iff, Lib.toList_data, Lib.toList_data]
  exact Iff.rfl
theorem beq_list (a b : ByteArray) : (a.toList == b.toList) = true ↔ a = b := by
  rw [beq_iff_eq, Lib.toList_data, Lib.toList_data]
  constructor
  · intro h
    exact ba_eq h
  · rintro rfl; rfl
theorem beq_no {a b : ByteArray} (h : a ≠ b) : (a.toList == b.toList) = false := Bool.eq_false_iff.2 (fun e => h ((beq_list a b).1 e))
theorem ret_bool {a b : Bool} (h : a = b) : Ending.returned (.bool a) = .returned (.bool b) := by rw [h]

/-! ### names -/
def okN (n : Int) : Prop := (97 ≤ n ∧ n ≤ 122) ∨ (48 ≤ n ∧ n ≤ 57) ∨ n = 45
theorem idx_bytes (s : ByteArray) : ∀ (f pos : Nat), s.size ≤ pos + f → (Lib.idxFuncFrom badRune true s f pos < 0 ↔ ∀ (j : Nat) (hj : j < s.size), pos ≤ j → okN (s[j].toNat : Int))
  | 0, pos, h => by
    refine ⟨fun _ j hj hp => by omega, fun _ => ?_⟩
    rw [Lib.idxFuncFrom_end _ _ _ _ _ (by omega)]
    omega
  | f + 1, pos, h => by
    by_cases hp : pos < s.size
    · by_cases ha : (s[pos]'hp).toNat < 128
      · have hd := decode_ascii s pos hp ha
        by_cases hok : okN ((s[pos]'hp).toNat : Int)
        · have hb : badRune (s[pos]'hp).toNat = false := bad_f (by unfold okN at hok; omega)
          have ih := idx_bytes s f (pos + 1) (by omega)
          rw [Lib.idxFuncFrom, if_pos hp, hd]
          dsimp only
          rw [hb, if_neg (by simp), ih]
          refine ⟨fun h2 j hj hpj => ?_, fun h2 j hj hpj => h2 j hj (by omega)⟩
          by_cases e : j = pos
          · subst e; exact hok
          · exact h2 j hj (by omega)
        · have hb : badRune (s[pos]'hp).toNat = true := bad_t (by unfold okN at hok; omega)
          rw [Lib.idxFuncFrom, if_pos hp, hd]
          dsimp only
          rw [hb, if_pos rfl]
          exact ⟨fun h2 => by omega, fun h2 => absurd (h2 pos hp (Nat.le_refl _)) hok⟩
      · have hd := (decode_high s pos hp (by omega)).1
        have hb : badRune (Utf8.decode s pos).1 = true := bad_t (by omega)
        rw [Lib.idxFuncFrom, if_pos hp, hb, if_pos rfl]
        refine ⟨fun h2 => by omega, fun h2 => ?_⟩
        have := h2 pos hp (Nat.le_refl _)
        unfold okN at this
        omega
    · rw [Lib.idxFuncFrom_end _ _ _ _ _ hp]
      exact ⟨fun _ j hj hpj => by omega, fun _ => by omega⟩
theorem idx_all (s : ByteArray) : Lib.idxFunc badRune true s < 0 ↔ ∀ (j : Nat) (hj : j < s.size), okN (s[j].toNat : Int) := by
  unfold Lib.idxFunc
  rw [idx_bytes s s.size 0 (by omega)]
  exact ⟨fun h j hj => h j hj (Nat.zero_le _), fun h j hj _ => h j hj⟩
theorem name_all {s : ByteArray} (h1 : 1 ≤ s.size) (h2 : s.size ≤ 24) (h : ∀ (j : Nat) (hj : j < s.size), okN (s[j].toNat : Int)) : nameB s = true := by
  unfold nameB
  rw [decide_eq_true h1, decide_eq_true h2, decide_eq_true ((idx_all s).2 h)]
  rfl
theorem name_no {s : ByteArray} {j : Nat} (hj : j < s.size) (h : ¬ okN (s[j].toNat : Int)) : nameB s = false := by
  unfold nameB
  rw [decide_eq_false (fun h2 => h ((idx_all s).1 h2 j hj)), Bool.and_false]
theorem name_len {s : ByteArray} (h : ¬ (1 ≤ s.size ∧ s.size ≤ 24)) : nameB s = false := by
  unfold nameB
  by_cases h1 : 1 ≤ s.size
  · rw [decide_eq_false (p := s.size ≤ 24) (fun h2 => h ⟨h1, h2⟩)]; simp
  · rw [decide_eq_false h1]; simp

set_option maxHeartbeats 1000000 in
set_option maxRecDepth 100000 in
theorem rname_any (s : ByteArray) (w : World) (hs : s.size ≤ maxLen) :
    Calls Tryz.prog 20 #[.string s] w fun e w' => e = .returned (.bool (nameB s)) ∧ w = w' := by
  unfold maxLen at hs
  go_enter Tryz.func20, Tryz.ntmps20
  go_wp2
  go_loop [3] (fun i => ∃ k : Nat, k ≤ s.size ∧ i = .int .i64 k ∧ Hid (∀ (j : Nat) (hj : j < s.size), j < k → okN (s[j].toNat : Int))) (fun i => s.size - (intOf i).toNat)
  case atStart => exact ⟨0, Nat.zero_le _, rfl, Lib.hid (fun j _ h => by omega)⟩
  case round =>
    obtain ⟨k, hk, rfl, hok⟩ := hrel
    by_cases hlt : k < s.size
    · have HADD : Hid (okN (s[k].toNat : Int) → ∀ (j : Nat) (hj : j < s.size), j < k + 1 → okN (s[j].toNat : Int)) := Lib.hid (fun h j hj h2 => by
        by_cases e : j = k
        · subst e; exact h
        · exact hok.out j hj (by omega))
      have HNO : Hid (¬ okN (s[k].toNat : Int) → nameB s = false) := Lib.hid (fun h => name_no hlt h)
      go_wp2
      all_goals first
        | (go_ret; exact ⟨ret_bool (HNO.out (by unfold okN; first | omega | (simp_all <;> omega))).symm, rfl⟩)
        | (go_round
           case rel => exact ⟨k + 1, by omega, by go_num, Lib.hid (HADD.out (by unfold okN; first | omega | (simp_all <;> omega)))⟩
           case measure => simp [intOf]; omega)
    · have HALL : Hid (∀ (j : Nat) (hj : j < s.size), okN (s[j].toNat : Int)) := Lib.hid (fun j hj => hok.out j hj (by omega))
      by_cases h1 : 1 ≤ s.size
      · by_cases h2 : s.size ≤ 24
        · have HF : Hid (nameB s = true) := Lib.hid (name_all h1 h2 HALL.out)
          have t1 : decide ((1 : Int) ≤ (s.size : Int)) = true := decide_eq_true (by omega)
          have t2 : decide ((s.size : Int) ≤ 24) = true := decide_eq_true (by omega)
          go_wp2
          go_ret
          exact ⟨ret_bool HF.out.symm, rfl⟩
        · have HF := Lib.hid (name_len (s := s) (fun h => h2 h.2))
          have t1 : decide ((1 : Int) ≤ (s.size : Int)) = true := decide_eq_true (by omega)
          have t2 : decide ((s.size : Int) ≤ 24) = false := decide_eq_false (by omega)
          go_wp2
          go_ret
          exact ⟨ret_bool HF.out.symm, rfl⟩
      · have HF := Lib.hid (name_len (s := s) (fun h => h1 h.1))
        have t1 : decide ((1 : Int) ≤ (s.size : Int)) = false := decide_eq_false (by omega)
        go_wp2
        go_ret
        exact ⟨ret_bool HF.out.symm, rfl⟩

/-! ### the clock in memory -/
/-- A source of the document: name, tick, and when it was heard last. -/
abbrev Sc := ByteArray × Int × Int
def scC (x : Sc) : List Value := [.string x.1, .int .i64 x.2.1, .int .i64 x.2.2]
theorem scC_len (x : Sc) : (scC x).length = 3 := rfl
theorem scC_one (l : List Sc) : ∀ u ∈ l.flatMap scC, u.oneCell' = true := fun u hu => by
  obtain ⟨x, _, hx⟩ := List.mem_flatMap.1 hu
  simp only [scC, List.mem_cons, List.not_mem_nil, or_false] at hx
  rcases hx with rfl | rfl | rfl <;> rfl

/-- l: the sources of f, rising. -/
structure Rows' (f : List UInt8 → Option (Int × Int)) (l : List Sc) : Prop where
  asc : l.Pairwise (fun x y => ltN x.1 y.1)
  mem : ∀ (s : ByteArray) x, f s.data.toList = some x ↔ (s, x) ∈ l
  ok : ∀ x ∈ l, 0 ≤ x.2.1 ∧ x.2.1 ≤ 1099511627776 ∧ 0 ≤ x.2.2 ∧ x.2.2 ≤ 1099511627776 ∧ x.1.size ≤ 24

structure DocIn (w : World) (D db : Nat) (A : Option Addr) (cc : Nat) (l : List Sc) (c : Ck) : Prop where
  blk : Blk w db 59 #[.int .i64 c.slack, .int .i64 c.idle, .int .i64 c.now, .int .i64 c.mark, .slice A l.length cc]
  row : RowIn w w.heap.size 3 A l.length (l.flatMap scC)
  far : ∀ g o, A = some ⟨g, o, none⟩ → g ≠ db ∧ D ≤ g
  nc : A = none → cc = 0
  cap : l.length ≤ cc
  base : D ≤ db
  ok : c.Ok
  rows : Rows' c.src l
/-- The document's clock c lies in block db, with at most n sources. -/
def DocAt (w : World) (D db n : Nat) (c : Ck) : Prop := ∃ A cc l, l.length ≤ n ∧ DocIn w D db A cc l c

theorem DocIn.keep {w w' : World} {D db cc : Nat} {A : Option Addr} {l : List Sc} {c : Ck} (h : DocIn w D db A cc l c) (hs : w.heap.size ≤ w'.heap.size) (hb : ∀ i, i < w.heap.size → D ≤ i → w'.heap[i]? = w.heap[i]?) : DocIn w' D db A cc l c := by
  refine ⟨(hb db h.blk.lt h.base).trans h.blk, ⟨h.row.1, ?_⟩, h.far, h.nc, h.cap, h.base, h.ok, h.rows⟩
  rcases h.row.2 with h0 | ⟨b, off, e, hbl, hc⟩
  · exact Or.inl h0
  · refine Or.inr ⟨b, off, e, by omega, fun j u hu => ?_⟩
    exact (World.cell?_of_block (hb b hbl (h.far b off e).2)).trans (hc j u hu)
theorem DocIn.kept {S : Nat → Prop} {w w' : World} {D db cc : Nat} {A : Option Addr} {l : List Sc} {c : Ck} (h : DocIn w D db A cc l c) (k : Kept S w w') (hS : ∀ i, S i → i < D) : DocIn w' D db A cc l c :=
  h.keep k.size (fun i hi hD => k.block i hi (fun hs => by have := hS i hs; omega))
theorem DocIn.below {w w' : World} {D db cc : Nat} {A : Option Addr} {l : List Sc} {c : Ck} (h : DocIn w D db A cc l c) (k : Below w.heap.size w w') : DocIn w' D db A cc l c :=
  h.keep k.size (fun i hi _ => k.block i hi)
theorem DocAt.kept {S : Nat → Prop} {w w' : World} {D db n : Nat} {c : Ck} (h : DocAt w D db n c) (k : Kept S w w') (hS : ∀ i, S i → i < D) : DocAt w' D db n c := by
  obtain ⟨A, cc, l, h1, h2⟩ := h
  exact ⟨A, cc, l, h1, h2.kept k hS⟩
/-- A number of the clock is set. -/
theorem DocIn.set {w : World} {D db cc : Nat} {A : Option Addr} {l : List Sc} {c c' : Ck} (h : DocIn w D db A cc l c) (i : Nat) (u : Value) (hc : (#[.int .i64 c.slack, .int .i64 c.idle, .int .i64 c.now, .int .i64 c.mark, .slice A l.length cc] : Array Value).setIfInBounds i u = #[.int .i64 c'.slack, .int .i64 c'.idle, .int .i64 c'.now, .int .i64 c'.mark, .slice A l.length cc]) (hs : c'.src = c.src) (ho : c'.Ok) : DocIn (w.setCell ⟨db, i, none⟩ u) D db A cc l c' := by
  refine ⟨by rw [← hc]; exact h.blk.set_ i u, ⟨h.row.1, ?_⟩, h.far, h.nc, h.cap, h.base, ho, by rw [hs]; exact h.rows⟩
  rcases h.row.2 with h0 | ⟨b, off, e, hbl, hcc⟩
  · exact Or.inl h0
  · refine Or.inr ⟨b, off, e, by simpa [World.setCell] using hbl, fun j u' hu => ?_⟩
    exact (World.cell?_of_block (Below.heap_setCell w ⟨db, i, none⟩ u b (h.far b off e).1)).trans (hcc j u' hu)
theorem DocIn.at {w : World} {D db cc : Nat} {A : Option Addr} {l : List Sc} {c : Ck} (h : DocIn w D db A cc l c) {k : Nat} {x : Sc} (hx : l[k]? = some x) : ∃ g o, A = some ⟨g, o, none⟩ ∧ g < w.heap.size ∧ w.cell? ⟨g, o + k * 3, none⟩ = some (.string x.1) ∧ w.cell? ⟨g, o + k * 3 + 1, none⟩ = some (.int .i64 x.2.1) ∧ w.cell? ⟨g, o + k * 3 + 2, none⟩ = some (.int .i64 x.2.2) := by
  have hk := (List.getElem?_eq_some_iff.1 hx).1
  obtain ⟨g, o, e, hg, hc⟩ := h.row.at (by omega)
  have h0 := hc (k * 3 + 0) (.string x.1) (by rw [flat_get scC 3 scC_len l k 0 x hx (by omega)]; rfl)
  have h1 := hc (k * 3 + 1) (.int .i64 x.2.1) (by rw [flat_get scC 3 scC_len l k 1 x hx (by omega)]; rfl)
  have h2 := hc (k * 3 + 2) (.int .i64 x.2.2) (by rw [flat_get scC 3 scC_len l k 2 x hx (by omega)]; rfl)
  refine ⟨g, o, e, hg, h0, ?_, ?_⟩
  · rw [Nat.add_assoc]; exact h1
  · rw [Nat.add_assoc]; exact h2
theorem rows_none {f : List UInt8 → Option (Int × Int)} (h : ∀ s, f s = none) : Rows' f [] :=
  ⟨List.Pairwise.nil, fun s x => by simp [h], fun x hx => by simp at hx⟩

/-! ### the walks -/


theorem ractive_any (D db cc : Nat) (A : Option Addr) (l : List Sc) (c : Ck) (x : Sc) (w : World) (h : DocIn w D db A cc l c) (hx0 : 0 ≤ x.2.2) (hx1 : x.2.2 ≤ 1099511627776) :
    Calls Tryz.prog 40 #[.pointer (some ⟨db, 0, none⟩), .agg #[.string x.1, .int .i64 x.2.1, .int .i64 x.2.2]] w fun e w' => e = .returned (.bool (act c x.2)) ∧ Below w.heap.size w w' := by
  have hlt := h.blk.lt
  have c1 : w.cell? ⟨db, 1, none⟩ = some (.int .i64 c.idle) := h.blk.cell 1
  have c2 : w.cell? ⟨db, 2, none⟩ = some (.int .i64 c.now) := h.blk.cell 2
  obtain ⟨s0, s1, i0, i1, n0, n1, m0, m1⟩ := h.ok
  obtain ⟨x0, x1, x2⟩ := x
  dsimp only at hx0 hx1 ⊢
  clear h
  by_cases hi : c.idle = 0
  · have hb : (c.idle == 0) = true := by simpa using hi
    have ha : act c (x1, x2) = true := by simp [act, hi]
    rw [ha]
    clear ha hi
    go_enter Tryz.func40, Tryz.ntmps40
    go_wp2
    go_quiet (fail)
    go_wp2
    go_ret
    exact ⟨rfl, Go.Proofs.YtobkgkiomapabaaGreatDoor.below_drewN ((Below.refl _ _).alloc (Nat.le_refl _) _) _⟩
  · have hb : (c.idle == 0) = false := by simpa using hi
    have ha : act c (x1, x2) = decide (c.now - x2 ≤ c.idle) := by simp [act, hi]
    rw [ha]
    clear ha hi
    go_enter Tryz.func40, Tryz.ntmps40
    go_wp2
    go_quiet (fail)
    go_wp2
    go_ret
    exact ⟨rfl, Go.Proofs.YtobkgkiomapabaaGreatDoor.below_drewN ((Below.refl _ _).alloc (Nat.le_refl _) _) _⟩

end Go.Proofs.YtobkgkiomapabaaGreatDoor
