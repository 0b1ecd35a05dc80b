/- A thing's tags: event.Tags; slices.Contains of strings. -/
import Derived.Test.YtpgbgeofhcpocaaGreatDoorLwParses
import Derived.Test.YtpgbgeofhcpocaaGreatDoorLay
namespace Go.Proofs.YtpgbgeofhcpocaaGreatDoor
open Go.Shelf Go.RowKit Go.Maps
set_option linter.unusedVariables false

/-- internal/bytealg.MaxLen holds an int. -/
def GlobAt (w : World) : Prop := 0 < w.heap.size ∧ ∃ m, w.cell? ⟨0, 0, none⟩ = some (.int .i64 m)
theorem GlobAt.keep {w w' : World} (h : GlobAt w) {B : Nat} (hb : Below B w w') (hB : w.heap.size ≤ B) : GlobAt w' := by
  obtain ⟨h0, m, hm⟩ := h
  exact ⟨Nat.lt_of_lt_of_le h0 hb.size, m, by rw [← hm]; exact hb.cell (p := ⟨0, 0, none⟩) (Nat.lt_of_lt_of_le h0 hB)⟩
theorem GlobAt.alloc {w : World} (h : GlobAt w) (o : Obj) : GlobAt (w.alloc o) := h.keep ((Below.refl w.heap.size w).alloc (Nat.le_refl _) o) (Nat.le_refl _)
theorem GlobAt.drewN {w : World} (h : GlobAt w) (n : Nat) : GlobAt (w.drewN n) := h
theorem GlobAt.drew {w : World} (h : GlobAt w) : GlobAt w.drew := h
theorem GlobAt.kept {w w' : World} {S : Nat → Prop} (h : GlobAt w) (k : Kept S w w') (hS : ∀ i, i ≤ 0 → ¬ S i) : GlobAt w' := by
  obtain ⟨h0, m, hm⟩ := h
  exact ⟨Nat.lt_of_lt_of_le h0 k.size, m, by rw [← hm]; exact k.cell (p := ⟨0, 0, none⟩) h0 (hS _ (Nat.le_refl _))⟩

/-- Ahead of, and behind, the first ';'. -/
def headP (s : ByteArray) : ByteArray := ⟨(Lib.cut s.data.toList [59]).1.toArray⟩
def restP (s : ByteArray) : ByteArray := ⟨(Lib.cut s.data.toList [59]).2.1.toArray⟩
def cutsP (s : ByteArray) : Bool := (Lib.cut s.data.toList [59]).2.2

theorem cut_any (s : ByteArray) (w : World) (hs : s.size < 4294967281) (hg : GlobAt w) :
    Calls Tryz.prog 109 #[.string s, .string ⟨#[59]⟩] w fun e w' => e = .returned (.tuple #[.string (headP s), .string (restP s), .bool (cutsP s)]) ∧ ∃ n, w' = w.drewN n := by
  obtain ⟨_, m, hm⟩ := hg
  exact Any.strings_Cut { Tryz.laysCut with } s ⟨#[59]⟩ m w hs hm

/-- What stands between commas. -/
def parts (s : ByteArray) : List ByteArray := Lib.splitB ⟨#[44]⟩ 0 (Lib.countB s ⟨#[44]⟩) s
theorem tparts_len (s : ByteArray) : (parts s).length = Lib.countB s ⟨#[44]⟩ + 1 := Lib.splitB_all ⟨#[44]⟩ (by decide) 0 _ s rfl
theorem tsplit_any (s : ByteArray) (w : World) (hs : s.size < 4294967281) (hg : GlobAt w) :
    Calls Tryz.prog 110 #[.string s, .string ⟨#[44]⟩] w fun e w' => e = .returned (.slice (some ⟨w.heap.size, 0, none⟩) (parts s).length (parts s).length) ∧ w' = w.alloc (.cells ((parts s).map Value.string).toArray 9) := by
  obtain ⟨_, m, hm⟩ := hg
  rw [tparts_len]
  exact Any.strings_Split { Tryz.laysSplit with } Tryz.laysSplit.i9 s ⟨#[44]⟩ m w hs hm (by decide)

/-- A listing's tags. -/
def evTags (s : ByteArray) : List ByteArray := if restP s = ⟨#[]⟩ then [] else parts (restP s)
theorem cut_le (s : ByteArray) : (restP s).size ≤ s.size := by
  show (Lib.cut s.data.toList [59]).2.1.toArray.size ≤ s.data.size
  unfold Lib.cut
  split <;> simp

set_option maxHeartbeats 1000000 in
set_option maxRecDepth 100000 in
theorem evtags_any (s : ByteArray) (w : World) (hs : s.size < 4294967281) (hg : GlobAt w) :
    Calls Tryz.prog 107 #[.string s] w fun e w' => ∃ A c, e = .returned (.slice A (evTags s).length c) ∧ RowIn w' w'.heap.size 1 A (evTags s).length ((evTags s).map .string) ∧ (A = none → c = 0) ∧ Below w.heap.size w w' := by
  have HC := Lib.hid (cut_any s w hs hg)
  go_enter Tryz.func107, Tryz.ntmps107
  go_wp2_with fail
  refine HC.out.mono ?_
  rintro e w1 ⟨rfl, q, rfl⟩
  have hle := cut_le s
  by_cases hr : restP s = ⟨#[]⟩
  · have hb : (restP s).toList.isEmpty = true := by rw [emp_iff]; simp [hr]
    have HE : Hid (evTags s = []) := Lib.hid (by unfold evTags; rw [if_pos hr])
    clear hr HC
    go_wp2_with fail
    go_ret
    rw [HE.out]
    exact ⟨none, 0, rfl, RowIn.nil _ _ _ _, fun _ => rfl, ⟨rfl, rfl, rfl, Nat.le_refl _, fun _ _ => rfl⟩⟩
  · have hb : (restP s).toList.isEmpty = false := by rw [emp_iff]; simp [hr]
    have HE : Hid (evTags s = parts (restP s)) := Lib.hid (by unfold evTags; rw [if_neg hr])
    have HS := Lib.hid (tsplit_any (restP s) (w.drewN q) (by omega) (hg.drewN q))
    clear hr HC
    go_wp2_with fail
    refine HS.out.mono ?_
    rintro e w2 ⟨rfl, hw2⟩
    clear HS
    go_wp2_with fail
    go_ret
    rw [HE.out]
    subst hw2
    refine ⟨_, _, rfl, ⟨by simp, Or.inr ⟨_, 0, rfl, by simp, fun j u hu => ?_⟩⟩, fun h => (by cases h), ?_⟩
    rotate_left
    · have h1 : Below (w.drewN q).heap.size (w.drewN q) ((w.drewN q).alloc (.cells ((parts (restP s)).map Value.string).toArray 9)) := (Below.refl _ _).alloc (Nat.le_refl _) _
      exact ⟨h1.os, h1.tape, h1.output, h1.size, h1.block⟩
    rw [Nat.zero_add]
    have := (Blk.new (w.drewN q) 9 ((parts (restP s)).map Value.string).toArray).cell j
    rw [List.getElem?_toArray, hu] at this
    exact this

def memB (x : ByteArray) (l : List ByteArray) : Bool := l.any fun y => decide (y = x)
theorem memB_iff (x : ByteArray) (l : List ByteArray) : memB x l = true ↔ x ∈ l := by
  unfold memB
  rw [List.any_eq_true]
  exact ⟨fun ⟨y, hy, h⟩ => by rw [← of_decide_eq_true h]; exact hy, fun h => ⟨x, h, decide_eq_true rfl⟩⟩
theorem beq_list (a b : ByteArray) : (a.toList == b.toList) = true ↔ a = b := by
  rw [beq_iff_eq, Lib.toList_data, Lib.toList_data]
  exact ⟨fun h => ba_ext h, fun h => by rw [h]⟩
set_option maxHeartbeats 1000000 in
set_option maxRecDepth 100000 in
theorem sindex_any (w : World) (B : Nat) (A : Option Addr) (l : List ByteArray) (n c : Nat) (s : ByteArray) (hn : l.length = n) (hl : RowIn w B 1 A n (l.map .string)) (hb : n ≤ 1000000) :
    Calls Tryz.prog 108 #[.slice A n c, .string s] w fun e w' => ∃ z : Int, e = .returned (.int .i64 z) ∧ (decide (0 ≤ z) = memB s l) ∧ w = w' := by
  have HN := Lib.hid hn
  have HL := Lib.hid hl
  clear hn hl
  go_enter Tryz.func108, Tryz.ntmps108
  go_wp2_with fail
  go_loopw [8] (fun i wr => ∃ k : Nat, k ≤ n ∧ i = .int .i64 k ∧ Hid (∀ j t, j < k → l[j]? = some t → t ≠ s) ∧ wr = w) (fun i _ => n - (intOf i).toNat)
  case atStart => exact ⟨0, Nat.zero_le _, rfl, Lib.hid (fun j t hj => by omega), rfl⟩
  case round =>
    obtain ⟨k, hk, rfl, hok, rfl⟩ := hrel
    by_cases hlt : k < n
    · obtain ⟨t, ht⟩ : ∃ t, l[k]? = some t := ⟨l[k]'(by rw [HN.out]; exact hlt), List.getElem?_eq_getElem _⟩
      obtain ⟨g, o, rfl, _, hc⟩ := HL.out.at (by omega)
      have e0 : wr.cell? ⟨g, o + k, none⟩ = some (.string t) := hc k _ (by simp [ht])
      have HTK := Lib.hid ht
      have hk8 : (k : Int) < (n : Int) := by omega
      have hk9 : (0 : Int) ≤ (k : Int) := by omega
      clear ht hc
      by_cases he : t = s
      · have HE : Hid (memB s l = true) := Lib.hid ((memB_iff _ _).2 (by rw [← he]; exact List.mem_of_getElem? HTK.out))
        have q1 : (s.toList == t.toList) = true := (beq_list s t).2 he.symm
        clear he
        go_wp2_with fail
        go_ret
        exact ⟨(k : Int), rfl, by rw [HE.out]; exact decide_eq_true hk9, rfl⟩
      · have HE := Lib.hid he
        have q1 : (s.toList == t.toList) = false := Bool.eq_false_iff.2 (fun e => he ((beq_list s t).1 e).symm)
        clear he
        go_wp2_with fail
        go_roundw
        case rel =>
          refine ⟨k + 1, by omega, by go_num, Lib.hid (fun j u hj hu => ?_), by trivial⟩
          by_cases e : j = k
          · subst e; rw [HTK.out] at hu; cases hu; exact HE.out
          · exact hok.out j u (by omega) hu
        case measure => simp [intOf]; omega
    · have HF : Hid (memB s l = false) := Lib.hid (by
        cases hm : memB s l
        · rfl
        · obtain ⟨j, hj⟩ := List.mem_iff_getElem?.1 ((memB_iff _ _).1 hm)
          have := (List.getElem?_eq_some_iff.1 hj).1
          rw [HN.out] at this
          exact absurd rfl (hok.out j s (by omega) hj))
      go_wp2_with fail
      go_ret
      exact ⟨-1, rfl, by rw [HF.out]; rfl, rfl⟩
theorem contains_any (w : World) (B : Nat) (A : Option Addr) (l : List ByteArray) (n c : Nat) (s : ByteArray) (hn : l.length = n) (hl : RowIn w B 1 A n (l.map .string)) (hb : n ≤ 1000000) :
    Calls Tryz.prog 106 #[.slice A n c, .string s] w fun e w' => e = .returned (.bool (memB s l)) ∧ w = w' := by
  have HI := Lib.hid (sindex_any w B A l n c s hn hl hb)
  clear hn hl
  go_enter Tryz.func106, Tryz.ntmps106
  go_wp2_with fail
  refine HI.out.mono ?_
  rintro e w2 ⟨z, rfl, hz, rfl⟩
  have HZ := Lib.hid hz
  clear hz HI
  go_wp2_with fail
  go_ret
  exact ⟨ret_bool HZ.out, rfl⟩
end Go.Proofs.YtpgbgeofhcpocaaGreatDoor
