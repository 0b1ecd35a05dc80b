/- Name, of the program and of the document. Name of the document. strings.Cut at ';', strings.Split at ',': contracts over a world in which internal/bytealg.MaxLen holds an int; parts of a text. event.Tags. Events in memory; cmp.Compare, strings.Compare, cmp.Or, event.Compare. event.listing. event.May. -/
import Derived.Test.YtikbckpphkpaiaaGreatDoorSlices
import Derived.Test.YtikbckpphkpaiaaGreatDoorText
import Derived.Test.YtikbckpphkpaiaaGreatDoorMapOps
import Derived.Test.YtikbckpphkpaiaaGreatDoorProg
import Derived.Deep.QuietTactic
import Derived.BigQuiet
import Derived.RegionTactic
import Derived.WalkLawsBesides
import Derived.Outline
import Derived.Test.YtikbckpphkpaiaaGreatDoorLay
import Derived.Lib.Bytealg
namespace Go.Proofs.YtikbckpphkpaiaaGreatDoor
/-! EvName -/
open Go.RowKit Go.Maps
set_option linter.unusedVariables false

theorem ret_bool {a b : Bool} (h : a = b) : Ending.returned (.bool a) = .returned (.bool b) := by rw [h]

def okN (n : Int) : Prop := (97 ≤ n ∧ n ≤ 122) ∨ (48 ≤ n ∧ n ≤ 57) ∨ n = 45
instance (n : Int) : Decidable (okN n) := by unfold okN; infer_instance
/-- Is a text a name? -/
def nameB (s : ByteArray) : Bool := decide (1 ≤ s.size ∧ s.size ≤ 24) && s.data.toList.all fun b => decide (okN b.toNat)
theorem name_all {s : ByteArray} (h1 : 1 ≤ s.size) (h2 : s.size ≤ 24) (h : ∀ (j : Nat) (hj : j < s.size), okN (s[j].toNat : Int)) : nameB s = true := by
  unfold nameB
  rw [decide_eq_true ⟨h1, h2⟩, Bool.true_and, List.all_eq_true]
  intro b hb
  obtain ⟨j, hj, rfl⟩ := List.mem_iff_getElem.1 hb
  exact decide_eq_true (h j (by simpa using hj))
theorem name_no {s : ByteArray} {j : Nat} (hj : j < s.size) (h : ¬ okN (s[j].toNat : Int)) : nameB s = false := by
  unfold nameB
  have : (s.data.toList.all fun b => decide (okN b.toNat)) = false := by
    rw [List.all_eq_false]
    exact ⟨s[j], List.getElem_mem (l := s.data.toList) (by simpa using hj), by simpa using h⟩
  rw [this, Bool.and_false]
theorem name_len {s : ByteArray} (h : ¬ (1 ≤ s.size ∧ s.size ≤ 24)) : nameB s = false := by
  unfold nameB; rw [decide_eq_false h]; rfl

set_option maxHeartbeats 1000000 in
set_option maxRecDepth 100000 in
theorem name_any (s : ByteArray) (w : World) (hs : s.size ≤ maxLen) :
    Calls Tryz.prog 26 #[.string s] w fun e w' => e = .returned (.bool (nameB s)) ∧ w = w' := by
  unfold maxLen at hs
  by_cases h1 : 1 ≤ s.size
  · by_cases h2 : s.size ≤ 24
    · have t1 : decide ((s.size : Int) < 1) = false := decide_eq_false (by omega)
      have t2 : decide ((24 : Int) < (s.size : Int)) = false := decide_eq_false (by omega)
      go_enter Tryz.func26, Tryz.ntmps26
      go_wp2
      go_loop [15] (fun i => ∃ k : Nat, k ≤ s.size ∧ i = .int .i64 k ∧ Hid (∀ (j : Nat) (hj : j < s.size), j < k → okN (s[j].toNat : Int))) (fun i => s.size - (intOf i).toNat)
      case atStart => exact ⟨0, Nat.zero_le _, rfl, Lib.hid (fun j _ h => by omega)⟩
      case round =>
        obtain ⟨k, hk, rfl, hok⟩ := hrel
        by_cases hlt : k < s.size
        · have HADD : Hid (okN (s[k].toNat : Int) → ∀ (j : Nat) (hj : j < s.size), j < k + 1 → okN (s[j].toNat : Int)) := Lib.hid (fun h j hj h2 => by
            by_cases e : j = k
            · subst e; exact h
            · exact hok.out j hj (by omega))
          have HNO : Hid (¬ okN (s[k].toNat : Int) → nameB s = false) := Lib.hid (fun h => name_no hlt h)
          go_wp2
          all_goals first
            | (go_ret; exact ⟨ret_bool (HNO.out (by unfold okN; first | omega | (simp_all <;> omega))).symm, rfl⟩)
            | (go_round
               case rel => exact ⟨k + 1, by omega, by go_num, Lib.hid (HADD.out (by unfold okN; first | omega | (simp_all <;> omega)))⟩
               case measure => simp [intOf]; omega)
        · have HF : Hid (nameB s = true) := Lib.hid (name_all h1 h2 (fun j hj => hok.out j hj (by omega)))
          go_wp2
          go_ret
          exact ⟨ret_bool HF.out.symm, rfl⟩
    · have t1 : decide ((s.size : Int) < 1) = false := decide_eq_false (by omega)
      have t2 : decide ((24 : Int) < (s.size : Int)) = true := decide_eq_true (by omega)
      have HF := Lib.hid (name_len (s := s) (fun h => h2 h.2))
      go_enter Tryz.func26, Tryz.ntmps26
      go_wp2
      go_ret
      exact ⟨ret_bool HF.out.symm, rfl⟩
  · have t1 : decide ((s.size : Int) < 1) = true := decide_eq_true (by omega)
    have HF := Lib.hid (name_len (s := s) (fun h => h1 h.1))
    go_enter Tryz.func26, Tryz.ntmps26
    go_wp2
    go_ret
    exact ⟨ret_bool HF.out.symm, rfl⟩

/-! EvName2 -/
open Go.RowKit Go.Maps
set_option linter.unusedVariables false

set_option maxHeartbeats 1000000 in
set_option maxRecDepth 100000 in
theorem rname_any (s : ByteArray) (w : World) (hs : s.size ≤ maxLen) :
    Calls Tryz.prog 40 #[.string s] w fun e w' => e = .returned (.bool (nameB s)) ∧ w = w' := by
  unfold maxLen at hs
  by_cases h1 : 1 ≤ s.size
  · by_cases h2 : s.size ≤ 24
    · have t1 : decide ((s.size : Int) < 1) = false := decide_eq_false (by omega)
      have t2 : decide ((24 : Int) < (s.size : Int)) = false := decide_eq_false (by omega)
      go_enter Tryz.func40, Tryz.ntmps40
      go_wp2
      go_loop [3] (fun i => ∃ k : Nat, k ≤ s.size ∧ i = .int .i64 k ∧ Hid (∀ (j : Nat) (hj : j < s.size), j < k → okN (s[j].toNat : Int))) (fun i => s.size - (intOf i).toNat)
      case atStart => exact ⟨0, Nat.zero_le _, rfl, Lib.hid (fun j _ h => by omega)⟩
      case round =>
        obtain ⟨k, hk, rfl, hok⟩ := hrel
        by_cases hlt : k < s.size
        · have HADD : Hid (okN (s[k].toNat : Int) → ∀ (j : Nat) (hj : j < s.size), j < k + 1 → okN (s[j].toNat : Int)) := Lib.hid (fun h j hj h2 => by
            by_cases e : j = k
            · subst e; exact h
            · exact hok.out j hj (by omega))
          have HNO : Hid (¬ okN (s[k].toNat : Int) → nameB s = false) := Lib.hid (fun h => name_no hlt h)
          go_wp2
          all_goals first
            | (go_ret; exact ⟨ret_bool (HNO.out (by unfold okN; first | omega | (simp_all <;> omega))).symm, rfl⟩)
            | (go_round
               case rel => exact ⟨k + 1, by omega, by go_num, Lib.hid (HADD.out (by unfold okN; first | omega | (simp_all <;> omega)))⟩
               case measure => simp [intOf]; omega)
        · have HF : Hid (nameB s = true) := Lib.hid (name_all h1 h2 (fun j hj => hok.out j hj (by omega)))
          go_wp2
          go_ret
          exact ⟨ret_bool HF.out.symm, rfl⟩
    · have t1 : decide ((s.size : Int) < 1) = false := decide_eq_false (by omega)
      have t2 : decide ((24 : Int) < (s.size : Int)) = true := decide_eq_true (by omega)
      have HF := Lib.hid (name_len (s := s) (fun h => h2 h.2))
      go_enter Tryz.func40, Tryz.ntmps40
      go_wp2
      go_ret
      exact ⟨ret_bool HF.out.symm, rfl⟩
  · have t1 : decide ((s.size : Int) < 1) = true := decide_eq_true (by omega)
    have HF := Lib.hid (name_len (s := s) (fun h => h1 h.1))
    go_enter Tryz.func40, Tryz.ntmps40
    go_wp2
    go_ret
    exact ⟨ret_bool HF.out.symm, rfl⟩

/-! EvCut -/
open Go.Shelf Go.RowKit Go.Lib Go.Maps
set_option linter.unusedVariables false

/-- internal/bytealg.MaxLen holds an int. -/
def GlobAt (w : World) : Prop := 0 < w.heap.size ∧ ∃ m, w.cell? ⟨0, 0, none⟩ = some (.int .i64 m)
theorem GlobAt.keep {w w' : World} (h : GlobAt w) {B : Nat} (hb : Below B w w') (hB : w.heap.size ≤ B) : GlobAt w' := by
  obtain ⟨h0, m, hm⟩ := h
  exact ⟨Nat.lt_of_lt_of_le h0 hb.size, m, by rw [← hm]; exact hb.cell (p := ⟨0, 0, none⟩) (Nat.lt_of_lt_of_le h0 hB)⟩
theorem GlobAt.alloc {w : World} (h : GlobAt w) (o : Obj) : GlobAt (w.alloc o) := h.keep ((Below.refl w.heap.size w).alloc (Nat.le_refl _) o) (Nat.le_refl _)
theorem GlobAt.drewN {w : World} (h : GlobAt w) (n : Nat) : GlobAt (w.drewN n) := h
theorem GlobAt.drew {w : World} (h : GlobAt w) : GlobAt w.drew := h
theorem GlobAt.kept {w w' : World} {S : Nat → Prop} (h : GlobAt w) (k : Kept S w w') (hS : ∀ i, i ≤ 0 → ¬ S i) : GlobAt w' := by
  obtain ⟨h0, m, hm⟩ := h
  exact ⟨Nat.lt_of_lt_of_le h0 k.size, m, by rw [← hm]; exact k.cell (p := ⟨0, 0, none⟩) h0 (hS _ (Nat.le_refl _))⟩

/-- Ahead of, and behind, the first ';'. -/
def headP (s : ByteArray) : ByteArray := ⟨(Lib.cut s.data.toList [59]).1.toArray⟩
def restP (s : ByteArray) : ByteArray := ⟨(Lib.cut s.data.toList [59]).2.1.toArray⟩
def cutsP (s : ByteArray) : Bool := (Lib.cut s.data.toList [59]).2.2

theorem cut_any (s : ByteArray) (w : World) (hs : s.size < 4294967281) (hg : GlobAt w) :
    Calls Tryz.prog 15 #[.string s, .string ⟨#[59]⟩] w fun e w' => e = .returned (.tuple #[.string (headP s), .string (restP s), .bool (cutsP s)]) ∧ ∃ n, w' = w.drewN n := by
  obtain ⟨_, m, hm⟩ := hg
  exact Any.strings_Cut { Tryz.laysCut with } s ⟨#[59]⟩ m w hs hm

/-- What stands between commas. -/
def parts (s : ByteArray) : List ByteArray := splitB ⟨#[44]⟩ 0 (countB s ⟨#[44]⟩) s
theorem parts_len (s : ByteArray) : (parts s).length = countB s ⟨#[44]⟩ + 1 := splitB_all ⟨#[44]⟩ (by decide) 0 _ s rfl
theorem split_any (s : ByteArray) (w : World) (hs : s.size < 4294967281) (hg : GlobAt w) :
    Calls Tryz.prog 36 #[.string s, .string ⟨#[44]⟩] w fun e w' => e = .returned (.slice (some ⟨w.heap.size, 0, none⟩) (parts s).length (parts s).length) ∧ w' = w.alloc (.cells ((parts s).map Value.string).toArray 9) := by
  obtain ⟨_, m, hm⟩ := hg
  rw [parts_len]
  exact Any.strings_Split { Tryz.laysSplit with } Tryz.laysSplit.i9 s ⟨#[44]⟩ m w hs hm (by decide)

/-! EvTags -/
open Go.Shelf Go.RowKit Go.Lib Go.Maps
set_option linter.unusedVariables false

theorem emp_iff (t : ByteArray) : t.toList.isEmpty = decide (t = ⟨#[]⟩) := by
  rw [Lib.toList_data]
  by_cases h : t = ⟨#[]⟩
  · subst h; rfl
  · have : t.data.toList ≠ [] := fun e => h (by cases t; simpa using e)
    rw [List.isEmpty_eq_false_iff.2 this]
    simp [h]

/-- A listing's tags. -/
def evTags (s : ByteArray) : List ByteArray := if restP s = ⟨#[]⟩ then [] else parts (restP s)
theorem cut_le (s : ByteArray) : (restP s).size ≤ s.size := by
  show (Lib.cut s.data.toList [59]).2.1.toArray.size ≤ s.data.size
  unfold Lib.cut
  split <;> simp

set_option maxHeartbeats 1000000 in
set_option maxRecDepth 100000 in
theorem evtags_any (s : ByteArray) (w : World) (hs : s.size < 4294967281) (hg : GlobAt w) :
    Calls Tryz.prog 58 #[.string s] w fun e w' => ∃ A c, e = .returned (.slice A (evTags s).length c) ∧ RowIn w' w'.heap.size 1 A (evTags s).length ((evTags s).map .string) ∧ (A = none → c = 0) ∧ Below w.heap.size w w' := by
  have HC := Lib.hid (cut_any s w hs hg)
  go_enter Tryz.func58, Tryz.ntmps58
  go_wp2_with fail
  refine HC.out.mono ?_
  rintro e w1 ⟨rfl, q, rfl⟩
  have hle := cut_le s
  by_cases hr : restP s = ⟨#[]⟩
  · have hb : (restP s).toList.isEmpty = true := by rw [emp_iff]; simp [hr]
    have HE : Hid (evTags s = []) := Lib.hid (by unfold evTags; rw [if_pos hr])
    clear hr HC
    go_wp2_with fail
    go_ret
    rw [HE.out]
    exact ⟨none, 0, rfl, RowIn.nil _ _ _ _, fun _ => rfl, ⟨rfl, rfl, rfl, Nat.le_refl _, fun _ _ => rfl⟩⟩
  · have hb : (restP s).toList.isEmpty = false := by rw [emp_iff]; simp [hr]
    have HE : Hid (evTags s = parts (restP s)) := Lib.hid (by unfold evTags; rw [if_neg hr])
    have HS := Lib.hid (split_any (restP s) (w.drewN q) (by omega) (hg.drewN q))
    clear hr HC
    go_wp2_with fail
    refine HS.out.mono ?_
    rintro e w2 ⟨rfl, hw2⟩
    clear HS
    go_wp2_with fail
    go_ret
    rw [HE.out]
    subst hw2
    refine ⟨_, _, rfl, ⟨by simp, Or.inr ⟨_, 0, rfl, by simp, fun j u hu => ?_⟩⟩, fun h => (by cases h), ?_⟩
    rotate_left
    · have h1 : Below (w.drewN q).heap.size (w.drewN q) ((w.drewN q).alloc (.cells ((parts (restP s)).map Value.string).toArray 9)) := (Below.refl _ _).alloc (Nat.le_refl _) _
      exact ⟨h1.os, h1.tape, h1.output, h1.size, h1.block⟩
    rw [Nat.zero_add]
    have := (Blk.new (w.drewN q) 9 ((parts (restP s)).map Value.string).toArray).cell j
    rw [List.getElem?_toArray, hu] at this
    exact this

/-! Ev -/
open Go.Shelf Go.RowKit Go.Maps
set_option linter.unusedVariables false

structure Ev where
  src : ByteArray
  num : Int
  tick : Int
  kind : Int
  person : ByteArray
  item : ByteArray
  value : Int
  text : ByteArray

def evC (x : Ev) : List Value := [.string x.src, .int .i64 x.num, .int .i64 x.tick, .int .i64 x.kind, .string x.person, .string x.item, .int .i64 x.value, .string x.text]
theorem evC_len (x : Ev) : (evC x).length = 8 := rfl
def evA (x : Ev) : Value := .agg #[.string x.src, .int .i64 x.num, .int .i64 x.tick, .int .i64 x.kind, .string x.person, .string x.item, .int .i64 x.value, .string x.text]
theorem evC_one : ∀ (l : List Ev), ∀ u ∈ l.flatMap evC, u.oneCell' = true := by
  intro l u hu
  obtain ⟨x, _, hx⟩ := List.mem_flatMap.1 hu
  simp [evC] at hx
  rcases hx with rfl | rfl | rfl | rfl | rfl | rfl | rfl | rfl <;> rfl
theorem ev_info : (Tryz.prog.info? 45).map (fun i => (i.zero, i.size, i.bytes)) = some (some (.agg #[.string ⟨#[]⟩, .int .i64 0, .int .i64 0, .int .i64 0, .string ⟨#[]⟩, .string ⟨#[]⟩, .int .i64 0, .string ⟨#[]⟩]), 8, 96) := by kernel_rfl
/-- An event lies at off in block b. -/
def EvAt (w : World) (b off : Nat) (x : Ev) : Prop :=
  w.cell? ⟨b, off, none⟩ = some (.string x.src) ∧ w.cell? ⟨b, off + 1, none⟩ = some (.int .i64 x.num) ∧ w.cell? ⟨b, off + 2, none⟩ = some (.int .i64 x.tick) ∧ w.cell? ⟨b, off + 3, none⟩ = some (.int .i64 x.kind) ∧
  w.cell? ⟨b, off + 4, none⟩ = some (.string x.person) ∧ w.cell? ⟨b, off + 5, none⟩ = some (.string x.item) ∧ w.cell? ⟨b, off + 6, none⟩ = some (.int .i64 x.value) ∧ w.cell? ⟨b, off + 7, none⟩ = some (.string x.text)
theorem EvAt.keep {w w' : World} {b off : Nat} {x : Ev} (h : EvAt w b off x) (hk : ∀ j, w'.cell? ⟨b, j, none⟩ = w.cell? ⟨b, j, none⟩) : EvAt w' b off x := by
  obtain ⟨h0, h1, h2, h3, h4, h5, h6, h7⟩ := h
  exact ⟨(hk _).trans h0, (hk _).trans h1, (hk _).trans h2, (hk _).trans h3, (hk _).trans h4, (hk _).trans h5, (hk _).trans h6, (hk _).trans h7⟩
/-- A slice of events. -/
def EvsAt (w : World) (B : Nat) (A : Option Addr) (l : List Ev) : Prop := RowIn w B 8 A l.length (l.flatMap evC)
theorem EvsAt.at {w : World} {B : Nat} {A : Option Addr} {l : List Ev} (h : EvsAt w B A l) (hl : 0 < l.length) : ∃ b off, A = some ⟨b, off, none⟩ ∧ b < B ∧ ∀ i x, l[i]? = some x → EvAt w b (off + i * 8) x := by
  obtain ⟨b, off, hA, hb, hc⟩ := RowIn.at h hl
  refine ⟨b, off, hA, hb, fun i x hx => ?_⟩
  have g := fun j (hj : j < 8) => flat_get evC 8 evC_len l i j x hx hj
  have k := fun j (hj : j < 8) u (hu : (evC x)[j]? = some u) => hc (i * 8 + j) u ((g j hj).trans hu)
  refine ⟨k 0 (by omega) _ rfl, ?_, ?_, ?_, ?_, ?_, ?_, ?_⟩
  · have := k 1 (by omega) _ rfl; rw [← Nat.add_assoc] at this; exact this
  · have := k 2 (by omega) _ rfl; rw [← Nat.add_assoc] at this; exact this
  · have := k 3 (by omega) _ rfl; rw [← Nat.add_assoc] at this; exact this
  · have := k 4 (by omega) _ rfl; rw [← Nat.add_assoc] at this; exact this
  · have := k 5 (by omega) _ rfl; rw [← Nat.add_assoc] at this; exact this
  · have := k 6 (by omega) _ rfl; rw [← Nat.add_assoc] at this; exact this
  · have := k 7 (by omega) _ rfl; rw [← Nat.add_assoc] at this; exact this
theorem EvsAt.below {w w' : World} {B : Nat} {A : Option Addr} {l : List Ev} (h : EvsAt w B A l) (hb : Below B w w') : EvsAt w' B A l := RowIn.below h hb
theorem EvsAt.kept {w w' : World} {B : Nat} {A : Option Addr} {l : List Ev} {S : Nat → Prop} (h : EvsAt w B A l) (k : Kept S w w') (hB : B ≤ w.heap.size) (hS : ∀ i, i < B → ¬ S i) : EvsAt w' B A l := RowIn.kept h k hB hS

theorem ret_int {k : IntKind} {a b : Int} (h : a = b) : Ending.returned (.int k a) = .returned (.int k b) := by rw [h]

def cmpI (a b : Int) : Int := if a < b then -1 else if b < a then 1 else 0
def cmpB (a b : ByteArray) : Int := Lib.compareBytes a.data.toList b.data.toList




/-- The first that is not 0. -/
def orL : List Int → Int
  | [] => 0
  | z :: l => if z = 0 then orL l else z

theorem orL_skip : ∀ (l : List Int) (k : Nat), (∀ j z, j < k → l[j]? = some z → z = 0) → orL l = orL (l.drop k)
  | [], k, _ => by simp
  | z :: l, 0, _ => by simp
  | z :: l, k + 1, h => by
    have h0 : z = 0 := h 0 z (by omega) (by simp)
    have := orL_skip l k (fun j y hj hy => h (j + 1) y (by omega) (by simpa using hy))
    simp [orL, h0, this]


/-- The order of two events. -/
def cmpE (x y : Ev) : Int := orL [cmpI x.tick y.tick, cmpB x.src y.src, cmpI x.num y.num]


/-! EvList -/
open Go.Shelf Go.RowKit Go.Maps
set_option linter.unusedVariables false

def ltB (a b : ByteArray) : Bool := Op.bytesLess a.toList b.toList
/-- Names, rising? -/
def riseB : List ByteArray → Bool
  | [] => true
  | [x] => nameB x
  | x :: y :: l => nameB x && (ltB x y && riseB (y :: l))
/-- Is the k-th a name, and above the one ahead of it? -/
def okAt (l : List ByteArray) (k : Nat) : Prop := ∀ t, l[k]? = some t → nameB t = true ∧ ∀ u, 0 < k → l[k - 1]? = some u → ltB u t = true
theorem rise_of : ∀ (l : List ByteArray), riseB l = true ↔ ∀ k, okAt l k
  | [] => by simp [riseB, okAt]
  | [x] => by
    constructor
    · intro h k t ht
      rcases k with _ | k
      · simp at ht; subst ht; exact ⟨h, fun u h0 => by omega⟩
      · simp at ht
    · intro h; exact (h 0 x rfl).1
  | x :: y :: l => by
    have ih := rise_of (y :: l)
    constructor
    · intro h k t ht
      simp only [riseB, Bool.and_eq_true] at h
      rcases k with _ | k
      · simp at ht; subst ht; exact ⟨h.1, fun u h0 => by omega⟩
      · have h2 := (ih.1 h.2.2) k t (by simpa using ht)
        refine ⟨h2.1, fun u _ hu => ?_⟩
        rcases k with _ | k
        · simp at ht hu; subst ht hu; exact h.2.1
        · exact h2.2 u (by omega) (by simpa using hu)
    · intro h
      simp only [riseB, Bool.and_eq_true]
      refine ⟨(h 0 x rfl).1, (h 1 y rfl).2 x (by omega) rfl, ih.2 fun k t ht => ?_⟩
      have h2 := h (k + 1) t (by simpa using ht)
      refine ⟨h2.1, fun u h0 hu => h2.2 u (by omega) ?_⟩
      rcases k with _ | k
      · omega
      · simpa using hu
/-- Is a text that of a listing? -/
def listB (s : ByteArray) : Bool := cutsP s && (nameB (headP s) && (decide ((evTags s).length ≤ 8) && riseB (evTags s)))

theorem head_le (s : ByteArray) : (headP s).size ≤ s.size := by
  show (Lib.cut s.data.toList [59]).1.toArray.size ≤ s.data.size
  unfold Lib.cut
  split <;> simp
  exact Nat.min_le_right _ _
theorem below_drewN {B : Nat} {w w' : World} (h : Below B w w') (n : Nat) : Below B w (w'.drewN n) := ⟨h.os, h.tape, h.output, h.size, h.block⟩
theorem below_from {B : Nat} {w w' : World} (n : Nat) (h : Below B (w.drewN n) w') : Below B w w' := ⟨h.os, h.tape, h.output, h.size, h.block⟩

theorem split_le (sep : ByteArray) : ∀ (k : Nat) (s : ByteArray), ∀ t ∈ Lib.splitB sep 0 k s, t.size ≤ s.size
  | 0, s => by simp [Lib.splitB]
  | k + 1, s => by
    unfold Lib.splitB
    split
    · simp
    · intro t ht
      rcases List.mem_cons.1 ht with rfl | ht
      · rw [ByteArray.size_extract]; omega
      · have := split_le sep k _ t ht
        rw [ByteArray.size_extract] at this
        omega
theorem parts_le (s : ByteArray) : ∀ t ∈ evTags s, t.size ≤ s.size := by
  intro t ht
  unfold evTags at ht
  split at ht
  · cases ht
  · have := split_le _ _ _ t ht
    have := cut_le s
    omega


/-! EvMay -/
open Go.Shelf Go.RowKit Go.Maps
set_option linter.unusedVariables false

def empB (s : ByteArray) : Bool := s.toList.isEmpty
/-- What an event of a kind must have. -/
def kindB (e : Ev) : Bool :=
  if e.kind = 0 ∨ e.kind = 1 ∨ e.kind = 2 ∨ e.kind = 3 ∨ e.kind = 5 ∨ e.kind = 6 then nameB e.person && (nameB e.item && (decide (e.value = 0) && empB e.text))
  else if e.kind = 4 then nameB e.person && (nameB e.item && (decide (1 ≤ e.value) && (decide (e.value ≤ 5) && empB e.text)))
  else if e.kind = 7 ∨ e.kind = 8 ∨ e.kind = 9 ∨ e.kind = 10 then nameB e.person && (empB e.item && (decide (e.value = 0) && nameB e.text))
  else if e.kind = 11 then empB e.person && (nameB e.item && (decide (0 ≤ e.value) && (decide (e.value ≤ 1048576) && listB e.text)))
  else if e.kind = 12 then empB e.person && (nameB e.item && (decide (0 ≤ e.value) && (decide (e.value ≤ 1048576) && empB e.text)))
  else if e.kind = 13 then empB e.person && (nameB e.item && (decide (e.value = 0) && empB e.text))
  else if e.kind = 14 then nameB e.person && (empB e.item && (decide (e.value = 0) && empB e.text))
  else false
/-- May an event be? -/
def mayB (e : Ev) : Bool := nameB e.src && (decide (1 ≤ e.num ∧ e.num ≤ 1099511627776) && (decide (0 ≤ e.tick ∧ e.tick ≤ 1099511627776) && kindB e))
/-- The texts of an event are short. -/
def EvSh (e : Ev) : Prop := e.src.size ≤ 1000000 ∧ e.person.size ≤ 1000000 ∧ e.item.size ≤ 1000000 ∧ e.text.size ≤ 1000000


end Go.Proofs.YtikbckpphkpaiaaGreatDoor
