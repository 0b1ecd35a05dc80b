/- Name, of the program and of the document. strings.Cut at ';', strings.Split at ',': contracts over a world in which internal/bytealg.MaxLen holds an int; parts of a text. event.Tags. Events in memory; cmp.Compare, strings.Compare, cmp.Or, event.Compare. event.listing. event.May. -/
import Derived.Test.YtdcinodbgbkobaaGreatDoorGa
import Derived.Test.YtdcinodbgbkobaaGreatDoorProg
import Derived.Deep.QuietTactic
import Derived.BigQuiet
import Derived.RegionTactic
import Derived.WalkLawsBesides
import Derived.Outline
import Derived.Test.YtdcinodbgbkobaaGreatDoorLay
import Derived.Lib.Bytealg
namespace Go.Proofs.YtdcinodbgbkobaaGreatDoor
section
open Go.RowKit Go.Maps
set_option linter.unusedVariables false

theorem ret_bool {a b : Bool} (h : a = b) : Ending.returned (.bool a) = .returned (.bool b) := by rw [h]

def okN (n : Int) : Prop := (97 ≤ n ∧ n ≤ 122) ∨ (48 ≤ n ∧ n ≤ 57) ∨ n = 45
instance (n : Int) : Decidable (okN n) := by unfold okN; infer_instance
/-- Is a text a name? -/
def nameB (s : ByteArray) : Bool := decide (1 ≤ s.size ∧ s.size ≤ 24) && s.data.toList.all fun b => decide (okN b.toNat)
theorem name_all {s : ByteArray} (h1 : 1 ≤ s.size) (h2 : s.size ≤ 24) (h : ∀ (j : Nat) (hj : j < s.size), okN (s[j].toNat : Int)) : nameB s = true := by
  unfold nameB
  rw [decide_eq_true ⟨h1, h2⟩, Bool.true_and, List.all_eq_true]
  intro b hb
  obtain ⟨j, hj, rfl⟩ := List.mem_iff_getElem.1 hb
  exact decide_eq_true (h j (by simpa using hj))
theorem name_no {s : ByteArray} {j : Nat} (hj : j < s.size) (h : ¬ okN (s[j].toNat : Int)) : nameB s = false := by
  unfold nameB
  have : (s.data.toList.all fun b => decide (okN b.toNat)) = false := by
    rw [List.all_eq_false]
    exact ⟨s[j], List.getElem_mem (l := s.data.toList) (by simpa using hj), by simpa using h⟩
  rw [this, Bool.and_false]
theorem name_len {s : ByteArray} (h : ¬ (1 ≤ s.size ∧ s.size ≤ 24)) : nameB s = false := by
  unfold nameB; rw [decide_eq_false h]; rfl

set_option maxHeartbeats 1000000 in
set_option maxRecDepth 100000 in
theorem name_any (s : ByteArray) (w : World) (hs : s.size ≤ maxLen) :
    Calls Tryz.prog 23 #[.string s] w fun e w' => e = .returned (.bool (nameB s)) ∧ w = w' := by
  unfold maxLen at hs
  by_cases h1 : 1 ≤ s.size
  · by_cases h2 : s.size ≤ 24
    · have t1 : decide ((s.size : Int) < 1) = false := decide_eq_false (by omega)
      have t2 : decide ((24 : Int) < (s.size : Int)) = false := decide_eq_false (by omega)
      go_enter Tryz.func23, Tryz.ntmps23
      go_wp2
      go_loop [15] (fun i => ∃ k : Nat, k ≤ s.size ∧ i = .int .i64 k ∧ Hid (∀ (j : Nat) (hj : j < s.size), j < k → okN (s[j].toNat : Int))) (fun i => s.size - (intOf i).toNat)
      case atStart => exact ⟨0, Nat.zero_le _, rfl, Lib.hid (fun j _ h => by omega)⟩
      case round =>
        obtain ⟨k, hk, rfl, hok⟩ := hrel
        by_cases hlt : k < s.size
        · have HADD : Hid (okN (s[k].toNat : Int) → ∀ (j : Nat) (hj : j < s.size), j < k + 1 → okN (s[j].toNat : Int)) := Lib.hid (fun h j hj h2 => by
            by_cases e : j = k
            · subst e; exact h
            · exact hok.out j hj (by omega))
          have HNO : Hid (¬ okN (s[k].toNat : Int) → nameB s = false) := Lib.hid (fun h => name_no hlt h)
          go_wp2
          all_goals first
            | (go_ret; exact ⟨ret_bool (HNO.out (by unfold okN; first | omega | (simp_all <;> omega))).symm, rfl⟩)
            | (go_round
               case rel => exact ⟨k + 1, by omega, by go_num, Lib.hid (HADD.out (by unfold okN; first | omega | (simp_all <;> omega)))⟩
               case measure => simp [intOf]; omega)
        · have HF : Hid (nameB s = true) := Lib.hid (name_all h1 h2 (fun j hj => hok.out j hj (by omega)))
          go_wp2
          go_ret
          exact ⟨ret_bool HF.out.symm, rfl⟩
    · have t1 : decide ((s.size : Int) < 1) = false := decide_eq_false (by omega)
      have t2 : decide ((24 : Int) < (s.size : Int)) = true := decide_eq_true (by omega)
      have HF := Lib.hid (name_len (s := s) (fun h => h2 h.2))
      go_enter Tryz.func23, Tryz.ntmps23
      go_wp2
      go_ret
      exact ⟨ret_bool HF.out.symm, rfl⟩
  · have t1 : decide ((s.size : Int) < 1) = true := decide_eq_true (by omega)
    have HF := Lib.hid (name_len (s := s) (fun h => h1 h.1))
    go_enter Tryz.func23, Tryz.ntmps23
    go_wp2
    go_ret
    exact ⟨ret_bool HF.out.symm, rfl⟩

end

section
open Go.Shelf Go.RowKit Go.Lib Go.Maps
set_option linter.unusedVariables false

/-- internal/bytealg.MaxLen holds an int. -/
def GlobAt (w : World) : Prop := 1 < w.heap.size ∧ ∃ m, w.cell? ⟨1, 0, none⟩ = some (.int .i64 m)
theorem GlobAt.keep {w w' : World} (h : GlobAt w) {B : Nat} (hb : Below B w w') (hB : w.heap.size ≤ B) : GlobAt w' := by
  obtain ⟨h0, m, hm⟩ := h
  exact ⟨Nat.lt_of_lt_of_le h0 hb.size, m, by rw [← hm]; exact hb.cell (p := ⟨1, 0, none⟩) (Nat.lt_of_lt_of_le h0 hB)⟩
theorem GlobAt.alloc {w : World} (h : GlobAt w) (o : Obj) : GlobAt (w.alloc o) := h.keep ((Below.refl w.heap.size w).alloc (Nat.le_refl _) o) (Nat.le_refl _)
theorem GlobAt.drewN {w : World} (h : GlobAt w) (n : Nat) : GlobAt (w.drewN n) := h
theorem GlobAt.drew {w : World} (h : GlobAt w) : GlobAt w.drew := h
theorem GlobAt.kept {w w' : World} {S : Nat → Prop} (h : GlobAt w) (k : Kept S w w') (hS : ∀ i, i ≤ 1 → ¬ S i) : GlobAt w' := by
  obtain ⟨h0, m, hm⟩ := h
  exact ⟨Nat.lt_of_lt_of_le h0 k.size, m, by rw [← hm]; exact k.cell (p := ⟨1, 0, none⟩) h0 (hS _ (Nat.le_refl _))⟩

/-- Ahead of, and behind, the first ';'. -/
def headP (s : ByteArray) : ByteArray := ⟨(Lib.cut s.data.toList [59]).1.toArray⟩
def restP (s : ByteArray) : ByteArray := ⟨(Lib.cut s.data.toList [59]).2.1.toArray⟩
def cutsP (s : ByteArray) : Bool := (Lib.cut s.data.toList [59]).2.2

theorem cut_any (s : ByteArray) (w : World) (hs : s.size < 4294967281) (hg : GlobAt w) :
    Calls Tryz.prog 21 #[.string s, .string ⟨#[59]⟩] w fun e w' => e = .returned (.tuple #[.string (headP s), .string (restP s), .bool (cutsP s)]) ∧ ∃ n, w' = w.drewN n := by
  obtain ⟨_, m, hm⟩ := hg
  exact Any.strings_Cut { Tryz.laysCut with } s ⟨#[59]⟩ m w hs hm

/-- What stands between commas. -/
def parts (s : ByteArray) : List ByteArray := splitB ⟨#[44]⟩ 0 (countB s ⟨#[44]⟩) s
theorem parts_len (s : ByteArray) : (parts s).length = countB s ⟨#[44]⟩ + 1 := splitB_all ⟨#[44]⟩ (by decide) 0 _ s rfl
theorem split_any (s : ByteArray) (w : World) (hs : s.size < 4294967281) (hg : GlobAt w) :
    Calls Tryz.prog 55 #[.string s, .string ⟨#[44]⟩] w fun e w' => e = .returned (.slice (some ⟨w.heap.size, 0, none⟩) (parts s).length (parts s).length) ∧ w' = w.alloc (.cells ((parts s).map Value.string).toArray 9) := by
  obtain ⟨_, m, hm⟩ := hg
  rw [parts_len]
  exact Any.strings_Split { Tryz.laysSplit with } Tryz.laysSplit.i9 s ⟨#[44]⟩ m w hs hm (by decide)

end

section
open Go.Shelf Go.RowKit Go.Lib Go.Maps
set_option linter.unusedVariables false

theorem emp_iff (t : ByteArray) : t.toList.isEmpty = decide (t = ⟨#[]⟩) := by
  rw [Lib.toList_data]
  by_cases h : t = ⟨#[]⟩
  · subst h; rfl
  · have : t.data.toList ≠ [] := fun e => h (by cases t; simpa using e)
    rw [List.isEmpty_eq_false_iff.2 this]
    simp [h]

/-- A listing's tags. -/
def evTags (s : ByteArray) : List ByteArray := if restP s = ⟨#[]⟩ then [] else parts (restP s)
theorem cut_le (s : ByteArray) : (restP s).size ≤ s.size := by
  show (Lib.cut s.data.toList [59]).2.1.toArray.size ≤ s.data.size
  unfold Lib.cut
  split <;> simp

set_option maxHeartbeats 1000000 in
set_option maxRecDepth 100000 in
theorem evtags_any (s : ByteArray) (w : World) (hs : s.size < 4294967281) (hg : GlobAt w) :
    Calls Tryz.prog 66 #[.string s] w fun e w' => ∃ A c, e = .returned (.slice A (evTags s).length c) ∧ RowIn w' w'.heap.size 1 A (evTags s).length ((evTags s).map .string) ∧ (A = none → c = 0) ∧ Below w.heap.size w w' := by
  have HC := Lib.hid (cut_any s w hs hg)
  go_enter Tryz.func66, Tryz.ntmps66
  go_wp2_with fail
  refine HC.out.mono ?_
  rintro e w1 ⟨rfl, q, rfl⟩
  have hle := cut_le s
  by_cases hr : restP s = ⟨#[]⟩
  · have hb : (restP s).toList.isEmpty = true := by rw [emp_iff]; simp [hr]
    have HE : Hid (evTags s = []) := Lib.hid (by unfold evTags; rw [if_pos hr])
    clear hr HC
    go_wp2_with fail
    go_ret
    rw [HE.out]
    exact ⟨none, 0, rfl, RowIn.nil _ _ _ _, fun _ => rfl, ⟨rfl, rfl, rfl, Nat.le_refl _, fun _ _ => rfl⟩⟩
  · have hb : (restP s).toList.isEmpty = false := by rw [emp_iff]; simp [hr]
    have HE : Hid (evTags s = parts (restP s)) := Lib.hid (by unfold evTags; rw [if_neg hr])
    have HS := Lib.hid (split_any (restP s) (w.drewN q) (by omega) (hg.drewN q))
    clear hr HC
    go_wp2_with fail
    refine HS.out.mono ?_
    rintro e w2 ⟨rfl, hw2⟩
    clear HS
    go_wp2_with fail
    go_ret
    rw [HE.out]
    subst hw2
    refine ⟨_, _, rfl, ⟨by simp, Or.inr ⟨_, 0, rfl, by simp, fun j u hu => ?_⟩⟩, fun h => (by cases h), ?_⟩
    rotate_left
    · have h1 : Below (w.drewN q).heap.size (w.drewN q) ((w.drewN q).alloc (.cells ((parts (restP s)).map Value.string).toArray 9)) := (Below.refl _ _).alloc (Nat.le_refl _) _
      exact ⟨h1.os, h1.tape, h1.output, h1.size, h1.block⟩
    rw [Nat.zero_add]
    have := (Blk.new (w.drewN q) 9 ((parts (restP s)).map Value.string).toArray).cell j
    rw [List.getElem?_toArray, hu] at this
    exact this

end

section
open Go.Shelf Go.RowKit Go.Maps
set_option linter.unusedVariables false

structure Ev where
  src : ByteArray
  num : Int
  tick : Int
  kind : Int
  person : ByteArray
  item : ByteArray
  value : Int
  text : ByteArray

def evC (x : Ev) : List Value := [.string x.src, .int .i64 x.num, .int .i64 x.tick, .int .i64 x.kind, .string x.person, .string x.item, .int .i64 x.value, .string x.text]
theorem evC_len (x : Ev) : (evC x).length = 8 := rfl
def evA (x : Ev) : Value := .agg #[.string x.src, .int .i64 x.num, .int .i64 x.tick, .int .i64 x.kind, .string x.person, .string x.item, .int .i64 x.value, .string x.text]
theorem evC_one : ∀ (l : List Ev), ∀ u ∈ l.flatMap evC, u.oneCell' = true := by
  intro l u hu
  obtain ⟨x, _, hx⟩ := List.mem_flatMap.1 hu
  simp [evC] at hx
  rcases hx with rfl | rfl | rfl | rfl | rfl | rfl | rfl | rfl <;> rfl
theorem ev_info : (Tryz.prog.info? 41).map (fun i => (i.zero, i.size, i.bytes)) = some (some (.agg #[.string ⟨#[]⟩, .int .i64 0, .int .i64 0, .int .i64 0, .string ⟨#[]⟩, .string ⟨#[]⟩, .int .i64 0, .string ⟨#[]⟩]), 8, 96) := by kernel_rfl
/-- An event lies at off in block b. -/
def EvAt (w : World) (b off : Nat) (x : Ev) : Prop :=
  w.cell? ⟨b, off, none⟩ = some (.string x.src) ∧ w.cell? ⟨b, off + 1, none⟩ = some (.int .i64 x.num) ∧ w.cell? ⟨b, off + 2, none⟩ = some (.int .i64 x.tick) ∧ w.cell? ⟨b, off + 3, none⟩ = some (.int .i64 x.kind) ∧
  w.cell? ⟨b, off + 4, none⟩ = some (.string x.person) ∧ w.cell? ⟨b, off + 5, none⟩ = some (.string x.item) ∧ w.cell? ⟨b, off + 6, none⟩ = some (.int .i64 x.value) ∧ w.cell? ⟨b, off + 7, none⟩ = some (.string x.text)
theorem EvAt.keep {w w' : World} {b off : Nat} {x : Ev} (h : EvAt w b off x) (hk : ∀ j, w'.cell? ⟨b, j, none⟩ = w.cell? ⟨b, j, none⟩) : EvAt w' b off x := by
  obtain ⟨h0, h1, h2, h3, h4, h5, h6, h7⟩ := h
  exact ⟨(hk _).trans h0, (hk _).trans h1, (hk _).trans h2, (hk _).trans h3, (hk _).trans h4, (hk _).trans h5, (hk _).trans h6, (hk _).trans h7⟩
/-- A slice of events. -/
def EvsAt (w : World) (B : Nat) (A : Option Addr) (l : List Ev) : Prop := RowIn w B 8 A l.length (l.flatMap evC)
theorem EvsAt.at {w : World} {B : Nat} {A : Option Addr} {l : List Ev} (h : EvsAt w B A l) (hl : 0 < l.length) : ∃ b off, A = some ⟨b, off, none⟩ ∧ b < B ∧ ∀ i x, l[i]? = some x → EvAt w b (off + i * 8) x := by
  obtain ⟨b, off, hA, hb, hc⟩ := RowIn.at h hl
  refine ⟨b, off, hA, hb, fun i x hx => ?_⟩
  have g := fun j (hj : j < 8) => flat_get evC 8 evC_len l i j x hx hj
  have k := fun j (hj : j < 8) u (hu : (evC x)[j]? = some u) => hc (i * 8 + j) u ((g j hj).trans hu)
  refine ⟨k 0 (by omega) _ rfl, ?_, ?_, ?_, ?_, ?_, ?_, ?_⟩
  · have := k 1 (by omega) _ rfl; rw [← Nat.add_assoc] at this; exact this
  · have := k 2 (by omega) _ rfl; rw [← Nat.add_assoc] at this; exact this
  · have := k 3 (by omega) _ rfl; rw [← Nat.add_assoc] at this; exact this
  · have := k 4 (by omega) _ rfl; rw [← Nat.add_assoc] at this; exact this
  · have := k 5 (by omega) _ rfl; rw [← Nat.add_assoc] at this; exact this
  · have := k 6 (by omega) _ rfl; rw [← Nat.add_assoc] at this; exact this
  · have := k 7 (by omega) _ rfl; rw [← Nat.add_assoc] at this; exact this
theorem EvsAt.below {w w' : World} {B : Nat} {A : Option Addr} {l : List Ev} (h : EvsAt w B A l) (hb : Below B w w') : EvsAt w' B A l := RowIn.below h hb
theorem EvsAt.kept {w w' : World} {B : Nat} {A : Option Addr} {l : List Ev} {S : Nat → Prop} (h : EvsAt w B A l) (k : Kept S w w') (hB : B ≤ w.heap.size) (hS : ∀ i, i < B → ¬ S i) : EvsAt w' B A l := RowIn.kept h k hB hS

theorem ret_int {k : IntKind} {a b : Int} (h : a = b) : Ending.returned (.int k a) = .returned (.int k b) := by rw [h]

def cmpI (a b : Int) : Int := if a < b then -1 else if b < a then 1 else 0
def cmpB (a b : ByteArray) : Int := Lib.compareBytes a.data.toList b.data.toList

theorem cmpI_any (a b : Int) (w : World) : Calls Tryz.prog 45 #[.int .i64 a, .int .i64 b] w fun e w' => e = .returned (.int .i64 (cmpI a b)) ∧ w = w' := by
  have n1 : (a != a) = false := by simp
  have n2 : (b != b) = false := by simp
  by_cases h1 : a < b
  · go_enter Tryz.func45, Tryz.ntmps45
    go_wp2
    go_ret
    exact ⟨ret_int (by simp [cmpI, h1]), rfl⟩
  · by_cases h2 : b < a
    · go_enter Tryz.func45, Tryz.ntmps45
      go_wp2
      go_ret
      exact ⟨ret_int (by unfold cmpI; rw [if_neg (by omega), if_pos h2]), rfl⟩
    · go_enter Tryz.func45, Tryz.ntmps45
      go_wp2
      go_ret
      exact ⟨ret_int (by unfold cmpI; rw [if_neg (by omega), if_neg (by omega)]), rfl⟩

set_option maxHeartbeats 1000000 in
set_option maxRecDepth 100000 in
theorem cmpstr_any (a b : ByteArray) (w : World) : Calls Tryz.prog 65 #[.string a, .string b] w fun e w' => e = .returned (.int .i64 (cmpB a b)) ∧ w = w' := by
  go_enter Tryz.func65, Tryz.ntmps65
  go_wp2
  rw [run_callFunc_extern Tryz.func87 (by kernel_rfl) (by kernel_rfl) (by kernel_rfl) (e := Extern.BytealgCompare.compare) (by kernel_rfl), Lib.run_compareString]
  simp only [Result.andThen]
  rw [Oper.upon_value]
  go_wp2
  go_ret
  exact ⟨rfl, rfl⟩

set_option maxRecDepth 100000 in
theorem cmpB_any (a b : ByteArray) (w : World) : Calls Tryz.prog 46 #[.string a, .string b] w fun e w' => e = .returned (.int .i64 (cmpB a b)) ∧ w = w' := by
  have HC := Lib.hid (cmpstr_any a b w)
  go_enter Tryz.func46, Tryz.ntmps46
  go_wp2_with fail
  refine HC.out.mono ?_
  rintro e w1 ⟨rfl, rfl⟩
  go_wp2_with fail
  go_ret
  exact ⟨rfl, rfl⟩

/-- The first that is not 0. -/
def orL : List Int → Int
  | [] => 0
  | z :: l => if z = 0 then orL l else z

theorem orL_skip : ∀ (l : List Int) (k : Nat), (∀ j z, j < k → l[j]? = some z → z = 0) → orL l = orL (l.drop k)
  | [], k, _ => by simp
  | z :: l, 0, _ => by simp
  | z :: l, k + 1, h => by
    have h0 : z = 0 := h 0 z (by omega) (by simp)
    have := orL_skip l k (fun j y hj hy => h (j + 1) y (by omega) (by simpa using hy))
    simp [orL, h0, this]

theorem or_any (g n cap : Nat) (zs : List Int) (w : World) (hn : zs.length = n) (hc : ∀ j z, zs[j]? = some z → w.cell? ⟨g, j, none⟩ = some (.int .i64 z)) (hb : n ≤ 1000000) :
    Calls Tryz.prog 44 #[.slice (some ⟨g, 0, none⟩) n cap] w fun e w' => e = .returned (.int .i64 (orL zs)) ∧ w = w' := by
  have HC := Lib.hid hc
  have HN := Lib.hid hn
  clear hc hn
  go_enter Tryz.func44, Tryz.ntmps44
  go_wp2
  go_loop [8] (fun i => ∃ k : Nat, k ≤ n ∧ i = .int .i64 k ∧ Hid (∀ j z, j < k → zs[j]? = some z → z = 0)) (fun i => n - (intOf i).toNat)
  case atStart => exact ⟨0, Nat.zero_le _, rfl, fun j z hj => by omega⟩
  case round =>
    obtain ⟨k, hk, rfl, hz⟩ := hrel
    by_cases hlt : k < n
    · obtain ⟨z, hzk⟩ : ∃ z, zs[k]? = some z := ⟨zs[k]'(by rw [HN.out]; exact hlt), List.getElem?_eq_getElem _⟩
      have c0 := HC.out k z hzk
      have HZ := Lib.hid hzk
      clear hzk
      by_cases h0 : z = 0
      · have hb0 : (z != 0) = false := by simp [h0]
        have H0 := Lib.hid h0
        clear h0
        go_wp2
        go_round
        case rel =>
          refine ⟨k + 1, by omega, by go_num, fun j y hj hy => ?_⟩
          by_cases e : j = k
          · subst e
            rw [HZ.out] at hy
            cases hy
            exact H0.out
          · exact hz.out j y (by omega) hy
        case measure => simp [intOf]; omega
      · have hb0 : (z != 0) = true := by simpa using h0
        have H0 := Lib.hid h0
        clear h0
        go_wp2
        go_ret
        refine ⟨ret_int ?_, rfl⟩
        rw [orL_skip zs k hz.out, List.drop_eq_getElem_cons (by rw [HN.out]; exact hlt), orL]
        have : zs[k]'(by rw [HN.out]; exact hlt) = z := by
          have := HZ.out
          rw [List.getElem?_eq_getElem (by rw [HN.out]; exact hlt)] at this
          exact Option.some.inj this
        rw [this, if_neg H0.out]
    · go_wp2
      go_ret
      refine ⟨ret_int ?_, rfl⟩
      rw [orL_skip zs k hz.out, List.drop_of_length_le (by rw [HN.out]; omega)]
      rfl

/-- The order of two events. -/
def cmpE (x y : Ev) : Int := orL [cmpI x.tick y.tick, cmpB x.src y.src, cmpI x.num y.num]

set_option maxHeartbeats 1000000 in
set_option maxRecDepth 100000 in
theorem cmpE_any (x y : Ev) (w : World) : Calls Tryz.prog 18 #[evA x, evA y] w fun e w' => e = .returned (.int .i64 (cmpE x y)) ∧ Below w.heap.size w w' := by
  obtain ⟨s1, n1, t1, k1, p1, i1, v1, x1⟩ := x
  obtain ⟨s2, n2, t2, k2, p2, i2, v2, x2⟩ := y
  unfold evA
  dsimp only
  go_enter Tryz.func18, Tryz.ntmps18
  go_wp2_with fail
  refine wp_text [15] (by kernel_rfl) (by kernel_rfl) ?_
  simp only [wpText, Nat.sub_zero, List.take_succ_cons, List.take_zero, List.drop_succ_cons, List.drop_zero, Nat.reduceAdd]
  repeat ((with_reducible refine wpStill_step (fun K hK => ?_)); go_simp; refine hK _ ?_; clear hK K)
  with_reducible refine wpStill_step (fun K hK => ?_)
  go_simp
  refine ⟨_, still_of (cmpI_any _ _ _), hK _ ?_⟩
  clear hK K
  repeat ((with_reducible refine wpStill_step (fun K hK => ?_)); go_simp; refine hK _ ?_; clear hK K)
  with_reducible refine wpStill_step (fun K hK => ?_)
  go_simp
  refine ⟨_, still_of (cmpB_any _ _ _), hK _ ?_⟩
  clear hK K
  repeat ((with_reducible refine wpStill_step (fun K hK => ?_)); go_simp; refine hK _ ?_; clear hK K)
  with_reducible refine wpStill_step (fun K hK => ?_)
  go_simp
  refine ⟨_, still_of (cmpI_any _ _ _), hK _ ?_⟩
  clear hK K
  with_reducible refine wpStill_nil ?_
  go_wp2_with fail
  with_reducible refine wpStill_step (fun K hK => ?_)
  go_simp
  refine ⟨_, still_of (or_any _ 3 3 [cmpI t1 t2, cmpB s1 s2, cmpI n1 n2] _ rfl ?hcells (by omega)), hK _ ?_⟩
  case hcells =>
    intro j z hz
    rcases j with _ | _ | _ | j
    · simp at hz; subst hz; simp [go_sem]
    · simp at hz; subst hz; simp [go_sem]
    · simp at hz; subst hz; simp [go_sem]
    · simp at hz
  clear hK K
  repeat ((with_reducible refine wpStill_step (fun K hK => ?_)); go_simp; refine hK _ ?_; clear hK K)
  with_reducible refine wpStill_nil ?_
  go_wp2_with fail
  go_ret
  have hB : ∀ o1 o2 o3, Below w.heap.size w (((w.alloc o1).alloc o2).alloc o3).drew := fun o1 o2 o3 => by
    have := (((Below.refl w.heap.size w).alloc (Nat.le_refl _) o1).alloc (by simp) o2).alloc (by simp; omega) o3
    exact ⟨this.os, this.tape, this.output, this.size, this.block⟩
  exact ⟨rfl, hB _ _ _⟩

end

section
open Go.Shelf Go.RowKit Go.Maps
set_option linter.unusedVariables false

def ltB (a b : ByteArray) : Bool := Op.bytesLess a.toList b.toList
/-- Names, rising? -/
def riseB : List ByteArray → Bool
  | [] => true
  | [x] => nameB x
  | x :: y :: l => nameB x && (ltB x y && riseB (y :: l))
/-- Is the k-th a name, and above the one ahead of it? -/
def okAt (l : List ByteArray) (k : Nat) : Prop := ∀ t, l[k]? = some t → nameB t = true ∧ ∀ u, 0 < k → l[k - 1]? = some u → ltB u t = true
theorem rise_of : ∀ (l : List ByteArray), riseB l = true ↔ ∀ k, okAt l k
  | [] => by simp [riseB, okAt]
  | [x] => by
    constructor
    · intro h k t ht
      rcases k with _ | k
      · simp at ht; subst ht; exact ⟨h, fun u h0 => by omega⟩
      · simp at ht
    · intro h; exact (h 0 x rfl).1
  | x :: y :: l => by
    have ih := rise_of (y :: l)
    constructor
    · intro h k t ht
      simp only [riseB, Bool.and_eq_true] at h
      rcases k with _ | k
      · simp at ht; subst ht; exact ⟨h.1, fun u h0 => by omega⟩
      · have h2 := (ih.1 h.2.2) k t (by simpa using ht)
        refine ⟨h2.1, fun u _ hu => ?_⟩
        rcases k with _ | k
        · simp at ht hu; subst ht hu; exact h.2.1
        · exact h2.2 u (by omega) (by simpa using hu)
    · intro h
      simp only [riseB, Bool.and_eq_true]
      refine ⟨(h 0 x rfl).1, (h 1 y rfl).2 x (by omega) rfl, ih.2 fun k t ht => ?_⟩
      have h2 := h (k + 1) t (by simpa using ht)
      refine ⟨h2.1, fun u h0 hu => h2.2 u (by omega) ?_⟩
      rcases k with _ | k
      · omega
      · simpa using hu
/-- Is a text that of a listing? -/
def listB (s : ByteArray) : Bool := cutsP s && (nameB (headP s) && (decide ((evTags s).length ≤ 8) && riseB (evTags s)))

theorem head_le (s : ByteArray) : (headP s).size ≤ s.size := by
  show (Lib.cut s.data.toList [59]).1.toArray.size ≤ s.data.size
  unfold Lib.cut
  split <;> simp
  exact Nat.min_le_right _ _
theorem below_drewN {B : Nat} {w w' : World} (h : Below B w w') (n : Nat) : Below B w (w'.drewN n) := ⟨h.os, h.tape, h.output, h.size, h.block⟩
theorem below_from {B : Nat} {w w' : World} (n : Nat) (h : Below B (w.drewN n) w') : Below B w w' := ⟨h.os, h.tape, h.output, h.size, h.block⟩

theorem split_le (sep : ByteArray) : ∀ (k : Nat) (s : ByteArray), ∀ t ∈ Lib.splitB sep 0 k s, t.size ≤ s.size
  | 0, s => by simp [Lib.splitB]
  | k + 1, s => by
    unfold Lib.splitB
    split
    · simp
    · intro t ht
      rcases List.mem_cons.1 ht with rfl | ht
      · rw [ByteArray.size_extract]; omega
      · have := split_le sep k _ t ht
        rw [ByteArray.size_extract] at this
        omega
theorem parts_le (s : ByteArray) : ∀ t ∈ evTags s, t.size ≤ s.size := by
  intro t ht
  unfold evTags at ht
  split at ht
  · cases ht
  · have := split_le _ _ _ t ht
    have := cut_le s
    omega

set_option maxHeartbeats 2000000 in
set_option maxRecDepth 100000 in
theorem listing_any (s : ByteArray) (w : World) (hs : s.size < 4294967281) (hg : GlobAt w) :
    Calls Tryz.prog 47 #[.string s] w fun e w' => e = .returned (.bool (listB s)) ∧ Below w.heap.size w w' := by
  have HC := Lib.hid (cut_any s w hs hg)
  have hle := head_le s
  have HP := Lib.hid (parts_le s)
  have HL : Hid (listB s = (cutsP s && (nameB (headP s) && (decide ((evTags s).length ≤ 8) && riseB (evTags s))))) := Lib.hid rfl
  go_enter Tryz.func47, Tryz.ntmps47
  go_wp2_with fail
  refine HC.out.mono ?_
  rintro e w1 ⟨rfl, q, rfl⟩
  clear HC
  cases hcut : cutsP s
  · have HCT := Lib.hid hcut
    clear hcut
    go_wp2_with fail
    go_ret
    exact ⟨ret_bool (by rw [HL.out, HCT.out]; rfl), below_drewN (Below.refl _ _) _⟩
  · have HCT := Lib.hid hcut
    have HN := Lib.hid (name_any (headP s) (w.drewN q) (by unfold maxLen; omega))
    have HT := Lib.hid (evtags_any s (w.drewN q) hs (hg.drewN q))
    clear hcut hg
    generalize headP s = h at *
    go_wp2_with fail
    refine HN.out.mono ?_
    rintro e w1 ⟨rfl, rfl⟩
    clear HN
    cases hn : nameB h
    · have HNM := Lib.hid hn
      clear hn
      go_wp2_with fail
      go_ret
      exact ⟨ret_bool (by rw [HL.out, HCT.out, HNM.out]; rfl), below_drewN (Below.refl _ _) _⟩
    · have HNM := Lib.hid hn
      clear hn
      go_wp2_with fail
      refine HT.out.mono ?_
      rintro e w2 ⟨A, c, rfl, hrow, hnil, hb2⟩
      clear HT
      have HB2 : Hid (Below w.heap.size w w2) := Lib.hid (below_from q hb2)
      generalize evTags s = l at *
      obtain ⟨n, hn⟩ : ∃ n, l.length = n := ⟨_, rfl⟩
      rw [hn] at hrow ⊢
      have HLN := Lib.hid hn
      have HR := Lib.hid hrow
      clear hrow hb2 hn
      by_cases h8 : n ≤ 8
      · go_wp2_with fail
        go_loopw [29] (fun i wr => ∃ k : Nat, k ≤ n ∧ i = .int .i64 k ∧ Hid (∀ j, j < k → okAt l j) ∧ wr = w2) (fun i _ => n - (intOf i).toNat)
        case atStart => exact ⟨0, Nat.zero_le _, rfl, Lib.hid (fun j hj => by omega), rfl⟩
        case round =>
          obtain ⟨k, hk, rfl, hok, rfl⟩ := hrel
          by_cases hlt : k < n
          · obtain ⟨t, ht⟩ : ∃ t, l[k]? = some t := ⟨l[k]'(by rw [HLN.out]; exact hlt), List.getElem?_eq_getElem _⟩
            obtain ⟨g, o, rfl, _, hc⟩ := HR.out.at (by omega)
            have e0 : wr.cell? ⟨g, o + k, none⟩ = some (.string t) := hc k _ (by simp [ht])
            have hts := HP.out t (List.mem_of_getElem? ht)
            have HN := Lib.hid (name_any t wr (by unfold maxLen; omega))
            have HTK := Lib.hid ht
            have hk8 : (k : Int) < (n : Int) := by omega
            have hk9 : (0 : Int) ≤ (k : Int) := by omega
            cases hn : nameB t
            · have HNT := Lib.hid hn
              rw [hn] at HN
              clear hn ht hc
              go_wp2_with fail
              refine HN.out.mono ?_
              rintro e w3 ⟨rfl, rfl⟩
              clear HN
              go_wp2_with fail
              go_ret
              refine ⟨ret_bool ?_, HB2.out⟩
              have hr : riseB l = false := by
                cases hr : riseB l
                · rfl
                · have := ((rise_of l).1 hr k t HTK.out).1
                  rw [HNT.out] at this; cases this
              rw [HL.out, hr]; simp
            · have HNT := Lib.hid hn
              rw [hn] at HN
              by_cases hk0 : k = 0
              · subst hk0
                rw [Nat.add_zero] at e0
                clear hn ht hc
                go_wp2_with fail
                refine HN.out.mono ?_
                rintro e w3 ⟨rfl, rfl⟩
                clear HN
                go_wp2_with fail
                go_roundw
                case rel =>
                  refine ⟨1, by omega, by go_num, Lib.hid (fun j hj => ?_), by trivial⟩
                  obtain rfl : j = 0 := by omega
                  intro t' ht'
                  rw [HTK.out] at ht'
                  cases ht'
                  exact ⟨HNT.out, fun u h0 => by omega⟩
                case measure => simp [intOf]; omega
              · obtain ⟨u, hu⟩ : ∃ u, l[k - 1]? = some u := ⟨l[k - 1]'(by rw [HLN.out]; omega), List.getElem?_eq_getElem _⟩
                have e1 : wr.cell? ⟨g, o + (k - 1), none⟩ = some (.string u) := hc (k - 1) _ (by simp [hu])
                have HU := Lib.hid hu
                have hkk : ((k : Int) - 1).toNat = k - 1 := by omega
                have hk1 : decide ((0 : Int) < (k : Int)) = true := decide_eq_true (by omega)
                have hk2 : (0 : Int) ≤ (k : Int) - 1 := by omega
                have hk3 : (k : Int) - 1 < (n : Int) := by omega
                clear hn ht hc hu
                cases hlt2 : Op.bytesLess u.toList t.toList
                · have HLT := Lib.hid hlt2
                  go_wp2_with fail
                  refine HN.out.mono ?_
                  rintro e w3 ⟨rfl, rfl⟩
                  clear HN
                  go_wp2_with fail
                  go_ret
                  refine ⟨ret_bool ?_, HB2.out⟩
                  have hr : riseB l = false := by
                    cases hr : riseB l
                    · rfl
                    · have := ((rise_of l).1 hr k t HTK.out).2 u (by omega) HU.out
                      unfold ltB at this
                      rw [HLT.out] at this; cases this
                  rw [HL.out, hr]; simp
                · have HLT := Lib.hid hlt2
                  go_wp2_with fail
                  refine HN.out.mono ?_
                  rintro e w3 ⟨rfl, rfl⟩
                  clear HN
                  go_wp2_with fail
                  go_roundw
                  case rel =>
                    refine ⟨k + 1, by omega, by go_num, Lib.hid (fun j hj => ?_), by trivial⟩
                    by_cases e : j = k
                    · subst e
                      intro t' ht'
                      rw [HTK.out] at ht'
                      cases ht'
                      refine ⟨HNT.out, fun u' _ hu' => ?_⟩
                      rw [HU.out] at hu'
                      cases hu'
                      exact HLT.out
                    · exact hok.out j (by omega)
                  case measure => simp [intOf]; omega
          · go_wp2_with fail
            go_ret
            refine ⟨ret_bool ?_, HB2.out⟩
            have hr : riseB l = true := (rise_of l).2 (fun j => by
              by_cases hj : j < k
              · exact hok.out j hj
              · intro t ht
                have := (List.getElem?_eq_some_iff.1 ht).1
                rw [HLN.out] at this
                omega)
            rw [HL.out, hr, HCT.out, HNM.out, HLN.out]
            simp [h8]
      · go_wp2_with fail
        go_ret
        refine ⟨ret_bool ?_, HB2.out⟩
        rw [HL.out, HLN.out]
        simp [h8]

end

section
open Go.Shelf Go.RowKit Go.Maps
set_option linter.unusedVariables false

def empB (s : ByteArray) : Bool := s.toList.isEmpty
/-- What an event of a kind must have. -/
def kindB (e : Ev) : Bool :=
  if e.kind = 0 ∨ e.kind = 1 ∨ e.kind = 2 ∨ e.kind = 3 ∨ e.kind = 5 ∨ e.kind = 6 then nameB e.person && (nameB e.item && (decide (e.value = 0) && empB e.text))
  else if e.kind = 4 then nameB e.person && (nameB e.item && (decide (1 ≤ e.value) && (decide (e.value ≤ 5) && empB e.text)))
  else if e.kind = 7 ∨ e.kind = 8 ∨ e.kind = 9 ∨ e.kind = 10 then nameB e.person && (empB e.item && (decide (e.value = 0) && nameB e.text))
  else if e.kind = 11 then empB e.person && (nameB e.item && (decide (0 ≤ e.value) && (decide (e.value ≤ 1048576) && listB e.text)))
  else if e.kind = 12 then empB e.person && (nameB e.item && (decide (0 ≤ e.value) && (decide (e.value ≤ 1048576) && empB e.text)))
  else if e.kind = 13 then empB e.person && (nameB e.item && (decide (e.value = 0) && empB e.text))
  else if e.kind = 14 then nameB e.person && (empB e.item && (decide (e.value = 0) && empB e.text))
  else false
/-- May an event be? -/
def mayB (e : Ev) : Bool := nameB e.src && (decide (1 ≤ e.num ∧ e.num ≤ 1099511627776) && (decide (0 ≤ e.tick ∧ e.tick ≤ 1099511627776) && kindB e))
/-- The texts of an event are short. -/
def EvSh (e : Ev) : Prop := e.src.size ≤ 1000000 ∧ e.person.size ≤ 1000000 ∧ e.item.size ≤ 1000000 ∧ e.text.size ≤ 1000000

set_option maxHeartbeats 4000000 in
set_option maxRecDepth 100000 in
theorem may_any (x : Ev) (w : World) (hs : EvSh x) (hg : GlobAt w) :
    Calls Tryz.prog 20 #[evA x] w fun e w' => e = .returned (.bool (mayB x)) ∧ Below w.heap.size w w' := by
  obtain ⟨s0, n0, t0, k0, p0, i0, v0, x0⟩ := x
  obtain ⟨h0, h1, h2, h3⟩ := hs
  dsimp only at h0 h1 h2 h3
  have HM : Hid (mayB ⟨s0, n0, t0, k0, p0, i0, v0, x0⟩ = (nameB s0 && (decide (1 ≤ n0 ∧ n0 ≤ 1099511627776) && (decide (0 ≤ t0 ∧ t0 ≤ 1099511627776) && kindB ⟨s0, n0, t0, k0, p0, i0, v0, x0⟩)))) := Lib.hid rfl
  unfold evA
  dsimp only
  obtain ⟨w1, hw1⟩ : ∃ w1, w.alloc (.cells #[.string s0, .int .i64 n0, .int .i64 t0, .int .i64 k0, .string p0, .string i0, .int .i64 v0, .string x0] 41) = w1 := ⟨_, rfl⟩
  have bl : Blk w1 w.heap.size 41 #[.string s0, .int .i64 n0, .int .i64 t0, .int .i64 k0, .string p0, .string i0, .int .i64 v0, .string x0] := by rw [← hw1]; exact Blk.new _ _ _
  have HB1 : Hid (Below w.heap.size w w1) := by rw [← hw1]; exact (Below.refl _ _).alloc (Nat.le_refl _) _
  have HZ : Hid (w.heap.size ≤ w1.heap.size) := HB1.out.size
  have c0 : w1.cell? ⟨w.heap.size, 0, none⟩ = some (.string s0) := bl.cell 0
  have c1 : w1.cell? ⟨w.heap.size, 1, none⟩ = some (.int .i64 n0) := bl.cell 1
  have c2 : w1.cell? ⟨w.heap.size, 2, none⟩ = some (.int .i64 t0) := bl.cell 2
  have c3 : w1.cell? ⟨w.heap.size, 3, none⟩ = some (.int .i64 k0) := bl.cell 3
  have c4 : w1.cell? ⟨w.heap.size, 4, none⟩ = some (.string p0) := bl.cell 4
  have c5 : w1.cell? ⟨w.heap.size, 5, none⟩ = some (.string i0) := bl.cell 5
  have c6 : w1.cell? ⟨w.heap.size, 6, none⟩ = some (.int .i64 v0) := bl.cell 6
  have c7 : w1.cell? ⟨w.heap.size, 7, none⟩ = some (.string x0) := bl.cell 7
  have HN0 := Lib.hid (name_any s0 w1 (by unfold maxLen; omega))
  have HG := Lib.hid (hg.keep HB1.out (Nat.le_refl _))
  clear bl hg
  go_enter Tryz.func20, Tryz.ntmps20
  go_wp2_with fail
  refine HN0.out.mono ?_
  rintro e w2 ⟨rfl, rfl⟩
  clear hw1 HN0
  cases hn0 : nameB s0
  · have HS := Lib.hid hn0
    clear hn0
    go_wp2_with fail
    go_ret
    exact ⟨ret_bool (by rw [HM.out, HS.out]; rfl), HB1.out⟩
  · have HS := Lib.hid hn0
    clear hn0
    by_cases hnum : 1 ≤ n0 ∧ n0 ≤ 1099511627776
    · by_cases htick : 0 ≤ t0 ∧ t0 ≤ 1099511627776
      · have b1 : decide (n0 < 1) = false := decide_eq_false (by omega)
        have b2 : decide (1099511627776 < n0) = false := decide_eq_false (by omega)
        have b3 : decide (t0 < 0) = false := decide_eq_false (by omega)
        have b4 : decide (1099511627776 < t0) = false := decide_eq_false (by omega)
        have HM2 : Hid (mayB ⟨s0, n0, t0, k0, p0, i0, v0, x0⟩ = kindB ⟨s0, n0, t0, k0, p0, i0, v0, x0⟩) := Lib.hid (by rw [HM.out, HS.out, decide_eq_true hnum, decide_eq_true htick]; rfl)
        clear hnum htick HM HS
        go_wp2_with fail
        refine wp_text [] (by kernel_rfl) (by kernel_rfl) ?_
        simp only [wpText]
        repeat ((with_reducible refine wpStill_step (fun K hK => ?_)); go_simp; refine hK _ ?_; clear hK K)
        with_reducible refine wpStill_step (fun K hK => ?_)
        go_simp
        refine ⟨_, still_of (name_any p0 _ (by unfold maxLen; omega)), hK _ ?_⟩
        clear hK K
        repeat ((with_reducible refine wpStill_step (fun K hK => ?_)); go_simp; refine hK _ ?_; clear hK K)
        with_reducible refine wpStill_step (fun K hK => ?_)
        go_simp
        refine ⟨_, still_of (name_any i0 _ (by unfold maxLen; omega)), hK _ ?_⟩
        clear hK K
        repeat ((with_reducible refine wpStill_step (fun K hK => ?_)); go_simp; refine hK _ ?_; clear hK K)
        with_reducible refine wpStill_nil ?_
        have HBD : Hid (Below w.heap.size w w1.drew) := Lib.hid ⟨HB1.out.os, HB1.out.tape, HB1.out.output, HB1.out.size, HB1.out.block⟩
        have HGD : Hid (GlobAt w1.drew) := Lib.hid HG.out.drew
        have HX := Lib.hid (name_any x0 w1.drew (by unfold maxLen; omega))
        have HLI := Lib.hid (listing_any x0 w1.drew (by omega) HGD.out)
        by_cases g1 : k0 = 0 ∨ k0 = 1 ∨ k0 = 2 ∨ k0 = 3 ∨ k0 = 5 ∨ k0 = 6
        · have HK : Hid (kindB ⟨s0, n0, t0, k0, p0, i0, v0, x0⟩ = (nameB p0 && (nameB i0 && (decide (v0 = 0) && empB x0)))) := Lib.hid (by simp only [kindB]; rw [if_pos g1])
          skip
          rcases g1 with rfl | rfl | rfl | rfl | rfl | rfl <;> ((go_wp2_with fail) <;> (go_ret; exact ⟨ret_bool (by rw [HM2.out, HK.out]; simp [empB, *] <;> omega), HBD.out⟩))
        by_cases g2 : k0 = 4
        · have HK : Hid (kindB ⟨s0, n0, t0, k0, p0, i0, v0, x0⟩ = (nameB p0 && (nameB i0 && (decide (1 ≤ v0) && (decide (v0 ≤ 5) && empB x0))))) := Lib.hid (by simp only [kindB]; rw [if_neg g1, if_pos g2])
          clear g1
          rcases g2 with rfl <;> ((go_wp2_with fail) <;> (go_ret; exact ⟨ret_bool (by rw [HM2.out, HK.out]; simp [empB, *] <;> omega), HBD.out⟩))
        by_cases g3 : k0 = 7 ∨ k0 = 8 ∨ k0 = 9 ∨ k0 = 10
        · have HK : Hid (kindB ⟨s0, n0, t0, k0, p0, i0, v0, x0⟩ = (nameB p0 && (empB i0 && (decide (v0 = 0) && nameB x0)))) := Lib.hid (by simp only [kindB]; rw [if_neg g1, if_neg g2, if_pos g3])
          clear g1 g2
          rcases g3 with rfl | rfl | rfl | rfl <;> ((go_wp2_with fail) <;> first | (go_ret; exact ⟨ret_bool (by rw [HM2.out, HK.out]; simp [empB, *] <;> omega), HBD.out⟩) | (refine HX.out.mono ?_; rintro e w2 ⟨rfl, rfl⟩; (go_wp2_with fail) <;> (go_ret; exact ⟨ret_bool (by rw [HM2.out, HK.out]; simp [empB, *] <;> omega), HBD.out⟩)))
        by_cases g4 : k0 = 11
        · have HK : Hid (kindB ⟨s0, n0, t0, k0, p0, i0, v0, x0⟩ = (empB p0 && (nameB i0 && (decide (0 ≤ v0) && (decide (v0 ≤ 1048576) && listB x0))))) := Lib.hid (by simp only [kindB]; rw [if_neg g1, if_neg g2, if_neg g3, if_pos g4])
          clear g1 g2 g3
          rcases g4 with rfl <;> ((go_wp2_with fail) <;> first | (go_ret; exact ⟨ret_bool (by rw [HM2.out, HK.out]; simp [empB, *] <;> omega), HBD.out⟩) | (refine HLI.out.mono ?_; rintro e w2 ⟨rfl, hb2⟩; (go_wp2_with fail) <;> (go_ret; exact ⟨ret_bool (by rw [HM2.out, HK.out]; simp [empB, *] <;> omega), HBD.out.trans (hb2.mono HBD.out.size)⟩)))
        by_cases g5 : k0 = 12
        · have HK : Hid (kindB ⟨s0, n0, t0, k0, p0, i0, v0, x0⟩ = (empB p0 && (nameB i0 && (decide (0 ≤ v0) && (decide (v0 ≤ 1048576) && empB x0))))) := Lib.hid (by simp only [kindB]; rw [if_neg g1, if_neg g2, if_neg g3, if_neg g4, if_pos g5])
          clear g1 g2 g3 g4
          rcases g5 with rfl <;> ((go_wp2_with fail) <;> (go_ret; exact ⟨ret_bool (by rw [HM2.out, HK.out]; simp [empB, *] <;> omega), HBD.out⟩))
        by_cases g6 : k0 = 13
        · have HK : Hid (kindB ⟨s0, n0, t0, k0, p0, i0, v0, x0⟩ = (empB p0 && (nameB i0 && (decide (v0 = 0) && empB x0)))) := Lib.hid (by simp only [kindB]; rw [if_neg g1, if_neg g2, if_neg g3, if_neg g4, if_neg g5, if_pos g6])
          clear g1 g2 g3 g4 g5
          rcases g6 with rfl <;> ((go_wp2_with fail) <;> (go_ret; exact ⟨ret_bool (by rw [HM2.out, HK.out]; simp [empB, *] <;> omega), HBD.out⟩))
        by_cases g7 : k0 = 14
        · have HK : Hid (kindB ⟨s0, n0, t0, k0, p0, i0, v0, x0⟩ = (nameB p0 && (empB i0 && (decide (v0 = 0) && empB x0)))) := Lib.hid (by simp only [kindB]; rw [if_neg g1, if_neg g2, if_neg g3, if_neg g4, if_neg g5, if_neg g6, if_pos g7])
          clear g1 g2 g3 g4 g5 g6
          rcases g7 with rfl <;> ((go_wp2_with fail) <;> (go_ret; exact ⟨ret_bool (by rw [HM2.out, HK.out]; simp [empB, *] <;> omega), HBD.out⟩))
        have HK : Hid (kindB ⟨s0, n0, t0, k0, p0, i0, v0, x0⟩ = false) := Lib.hid (by simp only [kindB]; rw [if_neg g1, if_neg g2, if_neg g3, if_neg g4, if_neg g5, if_neg g6, if_neg g7])
        have q : ∀ z ∈ [0, 1, 2, 3, 4, 5, 6, 7, 8, 9, 10, 11, 12, 13, 14], (k0 == z) = false := by
          intro z hz
          simp only [List.mem_cons, List.mem_nil_iff, or_false] at hz
          rcases hz with rfl | rfl | rfl | rfl | rfl | rfl | rfl | rfl | rfl | rfl | rfl | rfl | rfl | rfl | rfl <;> (rw [beq_eq_false_iff_ne]; omega)
        have q0 := q 0 (by simp)
        have q1 := q 1 (by simp)
        have q2 := q 2 (by simp)
        have q3 := q 3 (by simp)
        have q4 := q 4 (by simp)
        have q5 := q 5 (by simp)
        have q6 := q 6 (by simp)
        have q7 := q 7 (by simp)
        have q8 := q 8 (by simp)
        have q9 := q 9 (by simp)
        have q10 := q 10 (by simp)
        have q11 := q 11 (by simp)
        have q12 := q 12 (by simp)
        have q13 := q 13 (by simp)
        have q14 := q 14 (by simp)
        clear q g1 g2 g3 g4 g5 g6 g7
        go_wp2_with fail
        go_ret
        exact ⟨ret_bool (by rw [HM2.out, HK.out]), HBD.out⟩
      · have HM2 : Hid (mayB ⟨s0, n0, t0, k0, p0, i0, v0, x0⟩ = false) := Lib.hid (by rw [HM.out, decide_eq_false htick]; simp)
        have b1 : decide (n0 < 1) = false := decide_eq_false (by omega)
        have b2 : decide (1099511627776 < n0) = false := decide_eq_false (by omega)
        by_cases h4 : t0 < 0
        · clear hnum htick
          go_wp2_with fail
          go_ret
          exact ⟨ret_bool HM2.out.symm, HB1.out⟩
        · have h5 : 1099511627776 < t0 := by omega
          clear hnum htick
          go_wp2_with fail
          go_ret
          exact ⟨ret_bool HM2.out.symm, HB1.out⟩
    · have HM2 : Hid (mayB ⟨s0, n0, t0, k0, p0, i0, v0, x0⟩ = false) := Lib.hid (by rw [HM.out, decide_eq_false hnum]; simp)
      by_cases h4 : n0 < 1
      · clear hnum
        go_wp2_with fail
        go_ret
        exact ⟨ret_bool HM2.out.symm, HB1.out⟩
      · have h5 : 1099511627776 < n0 := by omega
        clear hnum
        go_wp2_with fail
        go_ret
        exact ⟨ret_bool HM2.out.symm, HB1.out⟩

end

end Go.Proofs.YtdcinodbgbkobaaGreatDoor
