/- A part of the joined base. -/
import Derived.Test.YthdmpcnnbminlaaGreatDoorR01
import Derived.Test.YthdmpcnnbminlaaGreatDoorR06
import Derived.RegionTactic
import Derived.Deep.RegionHeld3
import Derived.Deep.DeepCutAuto
import Derived.Deep.CutBlock
set_option linter.unusedVariables false
set_option maxHeartbeats 8000000
set_option maxRecDepth 100000
namespace Go.Proofs.YthdmpcnnbminlaaGreatDoor
open Go.Shelf Go.RowKit Go.Maps
/-! ### plain: what one row more turns -/
section
variable (rs : List Rw) (x : Ev) (ts : List ByteArray)
theorem done_off (h : ¬ (x.kind = 2 ∨ x.kind = 3)) (a b : ByteArray) : setF (doneB (rs ++ [⟨x, ts⟩])) a b = setF (doneB rs) a b := by
 unfold setF; rw [doneB_snoc]; simp [h]
theorem done_on (h : x.kind = 2 ∨ x.kind = 3) (a b : ByteArray) : setF (doneB (rs ++ [⟨x, ts⟩])) a b = upd2 (setF (doneB rs)) x.person x.item (.bool true) a b := by
 unfold upd2 setF
 rw [doneB_snoc]
 unfold isR
 by_cases e : a = x.person ∧ b = x.item
 ·obtain ⟨rfl, rfl⟩ := e; simp [h]
 ·rw [if_neg e]
  have : ¬ (x.person = a ∧ x.item = b) := fun h2 => e ⟨h2.1.symm, h2.2.symm⟩
  simp [this]
theorem shown_off (h : ¬ x.kind = 0) (a b : ByteArray) : cntF (shownN (rs ++ [⟨x, ts⟩])) a b = cntF (shownN rs) a b := by
 unfold cntF; rw [shownN_snoc]; simp [h]
theorem shown_on (h : x.kind = 0) (a b : ByteArray) : cntF (shownN (rs ++ [⟨x, ts⟩])) a b = upd2 (cntF (shownN rs)) x.person x.item (.int .i64 ((shownN rs x.person x.item : Int) + 1)) a b := by
 unfold upd2 cntF
 rw [shownN_snoc]
 unfold isR
 by_cases e : a = x.person ∧ b = x.item
 ·obtain ⟨rfl, rfl⟩ := e; simp [h]
 ·rw [if_neg e]
  have : ¬ (x.person = a ∧ x.item = b) := fun h2 => e ⟨h2.1.symm, h2.2.symm⟩
  simp [this]
theorem word_off (f : Rw → Bool) (k1 k2 : Int) (h : ¬ (x.kind = k1 ∨ x.kind = k2)) : wordO f k1 k2 (rs ++ [⟨x, ts⟩]) = wordO f k1 k2 rs := by
 rw [wordO_snoc]; simp [h]
theorem hid_off (h : ¬ (x.kind = 5 ∨ x.kind = 6)) (a b : ByteArray) : boolF (hidO (rs ++ [⟨x, ts⟩])) a b = boolF (hidO rs) a b := by
 unfold boolF hidO; rw [word_off rs x ts _ _ _ h]
theorem fol_off (h : ¬ (x.kind = 7 ∨ x.kind = 8)) (a b : ByteArray) : boolF (folO (rs ++ [⟨x, ts⟩])) a b = boolF (folO rs) a b := by
 unfold boolF folO; rw [word_off rs x ts _ _ _ h]
theorem mut_off (h : ¬ (x.kind = 9 ∨ x.kind = 10)) (a b : ByteArray) : boolF (mutO (rs ++ [⟨x, ts⟩])) a b = boolF (mutO rs) a b := by
 unfold boolF mutO; rw [word_off rs x ts _ _ _ h]
theorem hid_on (h : x.kind = 5 ∨ x.kind = 6) (a b : ByteArray) : boolF (hidO (rs ++ [⟨x, ts⟩])) a b = upd2 (boolF (hidO rs)) x.person x.item (.bool (decide (x.kind = 5))) a b := by
 unfold upd2 boolF hidO
 rw [wordO_snoc]
 unfold isR
 by_cases e : a = x.person ∧ b = x.item
 ·obtain ⟨rfl, rfl⟩ := e; simp [h]
 ·rw [if_neg e]
  have : ¬ (x.person = a ∧ x.item = b) := fun h2 => e ⟨h2.1.symm, h2.2.symm⟩
  simp [this]
theorem fol_on (h : x.kind = 7 ∨ x.kind = 8) (a b : ByteArray) : boolF (folO (rs ++ [⟨x, ts⟩])) a b = upd2 (boolF (folO rs)) x.person x.text (.bool (decide (x.kind = 7))) a b := by
 unfold upd2 boolF folO
 rw [wordO_snoc]
 unfold isT
 by_cases e : a = x.person ∧ b = x.text
 ·obtain ⟨rfl, rfl⟩ := e; simp [h]
 ·rw [if_neg e]
  have : ¬ (x.person = a ∧ x.text = b) := fun h2 => e ⟨h2.1.symm, h2.2.symm⟩
  simp [this]
theorem mut_on (h : x.kind = 9 ∨ x.kind = 10) (a b : ByteArray) : boolF (mutO (rs ++ [⟨x, ts⟩])) a b = upd2 (boolF (mutO rs)) x.person x.text (.bool (decide (x.kind = 9))) a b := by
 unfold upd2 boolF mutO
 rw [wordO_snoc]
 unfold isT
 by_cases e : a = x.person ∧ b = x.text
 ·obtain ⟨rfl, rfl⟩ := e; simp [h]
 ·rw [if_neg e]
  have : ¬ (x.person = a ∧ x.text = b) := fun h2 => e ⟨h2.1.symm, h2.2.symm⟩
  simp [this]
theorem lik_off (h : ¬ 0 < worthP x) (a b : ByteArray) : setF (likB (rs ++ [⟨x, ts⟩])) a b = setF (likB rs) a b := by
 unfold setF; rw [likB_snoc]; simp [h]
theorem lik_on (h : 0 < worthP x) (a b : ByteArray) : setF (likB (rs ++ [⟨x, ts⟩])) a b = upd2 (setF (likB rs)) x.person x.item (.bool true) a b := by
 unfold upd2 setF
 rw [likB_snoc]
 unfold isR
 by_cases e : a = x.person ∧ b = x.item
 ·obtain ⟨rfl, rfl⟩ := e; simp [h]
 ·rw [if_neg e]
  have : ¬ (x.person = a ∧ x.item = b) := fun h2 => e ⟨h2.1.symm, h2.2.symm⟩
  simp [this]
theorem lik_was (h : likB rs x.person x.item = true) (a b : ByteArray) : setF (likB (rs ++ [⟨x, ts⟩])) a b = setF (likB rs) a b := by
 unfold setF
 rw [likB_snoc]
 unfold isR
 by_cases e : a = x.person ∧ b = x.item
 ·obtain ⟨rfl, rfl⟩ := e; simp [h]
 ·have : ¬ (x.person = a ∧ x.item = b) := fun h2 => e ⟨h2.1.symm, h2.2.symm⟩
  simp [this]
theorem fans_same (h : ¬ (0 < worthP x ∧ likB rs x.person x.item = false)) (i : ByteArray) : fansN (rs ++ [⟨x, ts⟩]) i = fansN rs i := by
 rw [fansN_snoc, if_neg (fun q => h ⟨q.2.1, by rw [show x.item = i from q.1]; exact q.2.2⟩)]; rfl
theorem fans_more (h1 : 0 < worthP x) (h2 : likB rs x.person x.item = false) : fansN (rs ++ [⟨x, ts⟩]) = bmpS (fansN rs) x.item := by
 funext i
 rw [fansN_snoc]
 unfold bmpS
 by_cases e : i = x.item
 ·subst e; rw [if_pos (show x.item = x.item ∧ 0 < worthP x ∧ likB rs x.person x.item = false from ⟨rfl, h1, h2⟩), if_pos rfl]
 ·rw [if_neg (fun q => e (show x.item = i from q.1).symm), if_neg e]; rfl
end
structure MapsMid (w : World) (b : Bs) (r1 rs : List Rw) : Prop where
 done : Is2 okBool w b.db r1.length (setF (doneB r1))
 shown : Is2 okInt w b.sb r1.length (cntF (shownN r1))
 hid : Is2 okBool w b.hb r1.length (boolF (hidO r1))
 fol : Is2 okBool w b.fb r1.length (boolF (folO r1))
 mtd : Is2 okBool w b.mb r1.length (boolF (mutO r1))
 lik : Is2 okBool w b.lb rs.length (setF (likB rs))
 fans : MapIs Tryz.prog 9 okInt w b.nb rs.length (mapG (cntG (fansN rs)))
theorem len1 (rs : List Rw) (r : Rw) : (rs ++ [r]).length = rs.length + 1 := by simp
theorem mid_of {w w' : World} {b : Bs} {rs : List Rw} {S : Nat → Prop} (h : MapsIn w b rs) (k : Kept S w w') (r : Rw)
  (hd : (¬ S b.db ∧ ¬ (r.e.kind = 2 ∨ r.e.kind = 3)) ∨ Is2 okBool w' b.db (rs.length + 1) (setF (doneB (rs ++ [r]))))
  (hs : (¬ S b.sb ∧ ¬ r.e.kind = 0) ∨ Is2 okInt w' b.sb (rs.length + 1) (cntF (shownN (rs ++ [r]))))
  (hh : (¬ S b.hb ∧ ¬ (r.e.kind = 5 ∨ r.e.kind = 6)) ∨ Is2 okBool w' b.hb (rs.length + 1) (boolF (hidO (rs ++ [r]))))
  (hf : (¬ S b.fb ∧ ¬ (r.e.kind = 7 ∨ r.e.kind = 8)) ∨ Is2 okBool w' b.fb (rs.length + 1) (boolF (folO (rs ++ [r]))))
  (hm : (¬ S b.mb ∧ ¬ (r.e.kind = 9 ∨ r.e.kind = 10)) ∨ Is2 okBool w' b.mb (rs.length + 1) (boolF (mutO (rs ++ [r])))) (hl : ¬ S b.lb) (hn : ¬ S b.nb) : MapsMid w' b (rs ++ [r]) rs := by
 refine ⟨?_, ?_, ?_, ?_, ?_, h.lik.kept k hl, h.fans.kept k hn⟩ <;> rw [len1]
 ·rcases hd with ⟨h1, h2⟩ | hd
  ·exact ((h.done.kept k h1).mono (Nat.le_succ _)).congr (fun a b => (done_off rs r.e r.ts h2 a b).symm)
  ·exact hd
 ·rcases hs with ⟨h1, h2⟩ | hd
  ·exact ((h.shown.kept k h1).mono (Nat.le_succ _)).congr (fun a b => (shown_off rs r.e r.ts h2 a b).symm)
  ·exact hd
 ·rcases hh with ⟨h1, h2⟩ | hd
  ·exact ((h.hid.kept k h1).mono (Nat.le_succ _)).congr (fun a b => (hid_off rs r.e r.ts h2 a b).symm)
  ·exact hd
 ·rcases hf with ⟨h1, h2⟩ | hd
  ·exact ((h.fol.kept k h1).mono (Nat.le_succ _)).congr (fun a b => (fol_off rs r.e r.ts h2 a b).symm)
  ·exact hd
 ·rcases hm with ⟨h1, h2⟩ | hd
  ·exact ((h.mtd.kept k h1).mono (Nat.le_succ _)).congr (fun a b => (mut_off rs r.e r.ts h2 a b).symm)
  ·exact hd
theorem MapsMid.end {w w' : World} {b : Bs} {rs : List Rw} {r : Rw} {S : Nat → Prop} (h : MapsMid w b (rs ++ [r]) rs) (k : Kept S w w') (hS : ∀ q ∈ b.l, q ≠ b.pb → q ≠ b.lb → q ≠ b.nb → ¬ S q) (hnd : b.l.Nodup)
  (hl : Is2 okBool w' b.lb (rs.length + 1) (setF (likB (rs ++ [r])))) (hn : MapIs Tryz.prog 9 okInt w' b.nb (rs.length + 1) (mapG (cntG (fansN (rs ++ [r]))))) : MapsIn w' b (rs ++ [r]) := by
 have hne := hnd
 unfold Bs.l at hne
 simp only [List.nodup_cons, List.mem_cons, List.not_mem_nil, or_false, not_or, List.nodup_nil, and_true, not_false_eq_true] at hne
 obtain ⟨⟨a1, a2, a3, a4, a5, a6, a7⟩, ⟨b1, b2, b3, b4, b5, b6⟩, ⟨c1, c2, c3, c4, c5⟩, ⟨d1, d2, d3, d4⟩, ⟨e1, e2, e3⟩, ⟨f1, f2⟩, g1⟩ := hne
 refine ⟨h.done.kept k (hS b.db (by simp [Bs.l]) (Ne.symm a1) b5 b6), h.shown.kept k (hS b.sb (by simp [Bs.l]) (Ne.symm a2) c4 c5), h.hid.kept k (hS b.hb (by simp [Bs.l]) (Ne.symm a3) d3 d4), h.fol.kept k (hS b.fb (by simp [Bs.l]) (Ne.symm a4) e2 e3), h.mtd.kept k (hS b.mb (by simp [Bs.l]) (Ne.symm a5) f1 f2), ?_, ?_⟩
 ·rw [len1]; exact hl
 ·rw [len1]; exact hn
def NB (b : Bs) (q : Nat) : Prop := q ∈ b.l ∧ q ≠ b.pb
theorem nb_cases {b : Bs} {q : Nat} (h : NB b q) : q = b.db ∨ q = b.sb ∨ q = b.hb ∨ q = b.fb ∨ q = b.mb ∨ q = b.lb ∨ q = b.nb := by
 obtain ⟨h1, h2⟩ := h
 unfold Bs.l at h1
 simp only [List.mem_cons, List.not_mem_nil, or_false] at h1
 omega
theorem MapsIn.nb_lt {w : World} {b : Bs} {rs : List Rw} (h : MapsIn w b rs) {q : Nat} (hq : NB b q) : q < w.heap.size := by
 rcases nb_cases hq with rfl | rfl | rfl | rfl | rfl | rfl | rfl
 ·exact h.done.lt
 ·exact h.shown.lt
 ·exact h.hid.lt
 ·exact h.fol.lt
 ·exact h.mtd.lt
 ·exact h.lik.lt
 ·exact h.fans.lt
theorem MapsIn.nb_ne {w : World} {b : Bs} {rs : List Rw} (h : MapsIn w b rs) {g : Nat} {t : TypeId} {cs : Array Value} (hg : Blk w g t cs) : ¬ NB b g := fun hq => by
 rcases nb_cases hq with h1 | h1 | h1 | h1 | h1 | h1 | h1
 ·exact h.done.ne_blk hg h1.symm
 ·exact h.shown.ne_blk hg h1.symm
 ·exact h.hid.ne_blk hg h1.symm
 ·exact h.fol.ne_blk hg h1.symm
 ·exact h.mtd.ne_blk hg h1.symm
 ·exact h.lik.ne_blk hg h1.symm
 ·exact h.fans.ne_blk hg h1.symm
def Lk2 (w1 : World) (x : Ev) (v4 v5 : Value) (wx : World) : Prop := ∃ b4 b5 : Nat, v4 = .pointer (some ⟨b4, 0, none⟩) ∧ v5 = .pointer (some ⟨b5, 0, none⟩) ∧ Blk wx b4 142 #[.string x.person, .string x.item] ∧ Blk wx b5 142 #[.string x.person, .string x.text] ∧ w1.heap.size ≤ b4 ∧ w1.heap.size ≤ b5 ∧ Below w1.heap.size w1 wx
theorem lk_1 (w1 : World) (x : Ev) : Lk2 w1 x (.pointer (some ⟨w1.heap.size, 0, none⟩)) (.pointer (some ⟨w1.heap.size + 1, 0, none⟩)) ((w1.alloc (.cells #[.string x.person, .string x.item] 142)).alloc (.cells #[.string x.person, .string x.text] 142)).drew := by
 have h2 := Blk.new (w1.alloc (.cells #[.string x.person, .string x.item] 142)) 142 #[.string x.person, .string x.text]
 rw [World.size_alloc] at h2
 exact ⟨_, _, rfl, rfl, ((Blk.new w1 142 #[.string x.person, .string x.item]).alloc _).drew, h2.drew, Nat.le_refl _, Nat.le_succ _, below_drew (((Below.refl _ _).alloc (Nat.le_refl _) _).alloc (by simp) _)⟩
theorem lk_2 (w1 : World) (x : Ev) : Lk2 w1 x (.pointer (some ⟨w1.heap.size + 1, 0, none⟩)) (.pointer (some ⟨w1.heap.size, 0, none⟩)) ((w1.alloc (.cells #[.string x.person, .string x.text] 142)).alloc (.cells #[.string x.person, .string x.item] 142)).drew := by
 have h2 := Blk.new (w1.alloc (.cells #[.string x.person, .string x.text] 142)) 142 #[.string x.person, .string x.item]
 rw [World.size_alloc] at h2
 exact ⟨_, _, rfl, rfl, h2.drew, ((Blk.new w1 142 #[.string x.person, .string x.text]).alloc _).drew, Nat.le_succ _, Nat.le_refl _, below_drew (((Below.refl _ _).alloc (Nat.le_refl _) _).alloc (by simp) _)⟩
theorem worth_any (x : Ev) (w : World) : Calls Tryz.prog 157 #[evA x] w fun e w' => e = .returned (.int .i64 (worthP x)) ∧ Below w.heap.size w w' := by
 have HW : Hid (worthP x = if x.kind = 1 then 1 else if x.kind = 2 then 3 else if x.kind = 3 then 5 else if x.kind = 4 then x.value else 0) := zh rfl
 generalize worthP x = q at *
 obtain ⟨s0, n0, t0, k0, p0, i0, v0, x0⟩ := x
 dsimp only at HW
 unfold evA
 dsimp only
 obtain ⟨w1, hw1⟩ : ∃ w1, w.alloc (.cells #[.string s0, .int .i64 n0, .int .i64 t0, .int .i64 k0, .string p0, .string i0, .int .i64 v0, .string x0] 31) = w1 := ⟨_, rfl⟩
 have bl : Blk w1 w.heap.size 31 #[.string s0, .int .i64 n0, .int .i64 t0, .int .i64 k0, .string p0, .string i0, .int .i64 v0, .string x0] := by rw [← hw1]; exact Blk.new _ _ _
 have HB1 : Hid (Below w.heap.size w w1) := zh (by rw [← hw1]; exact (Below.refl _ _).alloc (Nat.le_refl _) _)
 have c3 : w1.cell? ⟨w.heap.size, 3, none⟩ = some (.int .i64 k0) := bl.cell 3
 have c6 : w1.cell? ⟨w.heap.size, 6, none⟩ = some (.int .i64 v0) := bl.cell 6
 clear bl
 by_cases q1 : k0 = 1
 ·have HQ : Hid (q = 1) := zh (by rw [HW.out, if_pos q1])
  subst q1
  clear HW
  go_enter Tryz.func157, Tryz.ntmps157
  go_wp2_with fail
  go_ret
  exact ⟨ret_int HQ.out.symm, HB1.out⟩
 have e1 : (k0 == 1) = false := by rw [Bool.eq_false_iff]; intro e; exact q1 (beq_iff_eq.1 e)
 by_cases q2 : k0 = 2
 ·have HQ : Hid (q = 3) := zh (by rw [HW.out, if_neg (show ¬ k0 = 1 by omega), if_pos q2])
  subst q2
  clear HW
  go_enter Tryz.func157, Tryz.ntmps157
  go_wp2_with fail
  go_ret
  exact ⟨ret_int HQ.out.symm, HB1.out⟩
 have e2 : (k0 == 2) = false := by rw [Bool.eq_false_iff]; intro e; exact q2 (beq_iff_eq.1 e)
 by_cases q3 : k0 = 3
 ·have HQ : Hid (q = 5) := zh (by rw [HW.out, if_neg (show ¬ k0 = 1 by omega), if_neg (show ¬ k0 = 2 by omega), if_pos q3])
  subst q3
  clear HW
  go_enter Tryz.func157, Tryz.ntmps157
  go_wp2_with fail
  go_ret
  exact ⟨ret_int HQ.out.symm, HB1.out⟩
 have e3 : (k0 == 3) = false := by rw [Bool.eq_false_iff]; intro e; exact q3 (beq_iff_eq.1 e)
 by_cases q4 : k0 = 4
 ·have HQ : Hid (q = v0) := zh (by rw [HW.out, if_neg (show ¬ k0 = 1 by omega), if_neg (show ¬ k0 = 2 by omega), if_neg (show ¬ k0 = 3 by omega), if_pos q4])
  subst q4
  clear HW
  go_enter Tryz.func157, Tryz.ntmps157
  go_wp2_with fail
  go_ret
  exact ⟨ret_int HQ.out.symm, HB1.out⟩
 have e4 : (k0 == 4) = false := by rw [Bool.eq_false_iff]; intro e; exact q4 (beq_iff_eq.1 e)
 have HQ : Hid (q = 0) := zh (by rw [HW.out, if_neg q1, if_neg q2, if_neg q3, if_neg q4])
 clear HW q1 q2 q3 q4
 go_enter Tryz.func157, Tryz.ntmps157
 go_wp2_with fail
 go_ret
 exact ⟨ret_int HQ.out.symm, HB1.out⟩
theorem mid_db {w w' : World} {b : Bs} {rs : List Rw} (h : MapsIn w b rs) (hnd : b.l.Nodup) (k : Kept (fun q => q = b.db) w w') (x : Ev) (ts : List ByteArray) (hk : x.kind = 2 ∨ x.kind = 3) (hm : Is2 okBool w' b.db (rs.length + 1) (upd2 (setF (doneB rs)) x.person x.item (.bool true))) : MapsMid w' b (rs ++ [⟨x, ts⟩]) rs ∧ Kept (NB b) w w' := by
 have osb : ¬ (x.kind = 0) := by omega
 have ohb : ¬ (x.kind = 5 ∨ x.kind = 6) := by omega
 have ofb : ¬ (x.kind = 7 ∨ x.kind = 8) := by omega
 have omb : ¬ (x.kind = 9 ∨ x.kind = 10) := by omega
 have hne := hnd
 unfold Bs.l at hne
 simp only [List.nodup_cons, List.mem_cons, List.not_mem_nil, or_false, not_or, List.nodup_nil, and_true, not_false_eq_true] at hne
 obtain ⟨⟨a1, a2, a3, a4, a5, a6, a7⟩, ⟨b1, b2, b3, b4, b5, b6⟩, ⟨c1, c2, c3, c4, c5⟩, ⟨d1, d2, d3, d4⟩, ⟨e1, e2, e3⟩, ⟨f1, f2⟩, g1⟩ := hne
 refine ⟨mid_of h k ⟨x, ts⟩ (Or.inr (hm.congr (fun a b => (done_on rs x ts hk a b).symm))) (Or.inl ⟨(Ne.symm b1), osb⟩) (Or.inl ⟨(Ne.symm b2), ohb⟩) (Or.inl ⟨(Ne.symm b3), ofb⟩) (Or.inl ⟨(Ne.symm b4), omb⟩) (Ne.symm b5) (Ne.symm b6), k.mono (fun i _ h => by rw [h]; exact ⟨by simp [Bs.l], (Ne.symm a1)⟩)⟩
theorem mid_sb {w w' : World} {b : Bs} {rs : List Rw} (h : MapsIn w b rs) (hnd : b.l.Nodup) (k : Kept (fun q => q = b.sb) w w') (x : Ev) (ts : List ByteArray) (hk : x.kind = 0) (hm : Is2 okInt w' b.sb (rs.length + 1) (upd2 (cntF (shownN rs)) x.person x.item (.int .i64 ((shownN rs x.person x.item : Int) + 1)))) : MapsMid w' b (rs ++ [⟨x, ts⟩]) rs ∧ Kept (NB b) w w' := by
 have odb : ¬ (x.kind = 2 ∨ x.kind = 3) := by omega
 have ohb : ¬ (x.kind = 5 ∨ x.kind = 6) := by omega
 have ofb : ¬ (x.kind = 7 ∨ x.kind = 8) := by omega
 have omb : ¬ (x.kind = 9 ∨ x.kind = 10) := by omega
 have hne := hnd
 unfold Bs.l at hne
 simp only [List.nodup_cons, List.mem_cons, List.not_mem_nil, or_false, not_or, List.nodup_nil, and_true, not_false_eq_true] at hne
 obtain ⟨⟨a1, a2, a3, a4, a5, a6, a7⟩, ⟨b1, b2, b3, b4, b5, b6⟩, ⟨c1, c2, c3, c4, c5⟩, ⟨d1, d2, d3, d4⟩, ⟨e1, e2, e3⟩, ⟨f1, f2⟩, g1⟩ := hne
 refine ⟨mid_of h k ⟨x, ts⟩ (Or.inl ⟨b1, odb⟩) (Or.inr (hm.congr (fun a b => (shown_on rs x ts hk a b).symm))) (Or.inl ⟨(Ne.symm c1), ohb⟩) (Or.inl ⟨(Ne.symm c2), ofb⟩) (Or.inl ⟨(Ne.symm c3), omb⟩) (Ne.symm c4) (Ne.symm c5), k.mono (fun i _ h => by rw [h]; exact ⟨by simp [Bs.l], (Ne.symm a2)⟩)⟩
theorem mid_hb {w w' : World} {b : Bs} {rs : List Rw} (h : MapsIn w b rs) (hnd : b.l.Nodup) (k : Kept (fun q => q = b.hb) w w') (x : Ev) (ts : List ByteArray) (hk : x.kind = 5 ∨ x.kind = 6) (hm : Is2 okBool w' b.hb (rs.length + 1) (upd2 (boolF (hidO rs)) x.person x.item (.bool (decide (x.kind = 5))))) : MapsMid w' b (rs ++ [⟨x, ts⟩]) rs ∧ Kept (NB b) w w' := by
 have odb : ¬ (x.kind = 2 ∨ x.kind = 3) := by omega
 have osb : ¬ (x.kind = 0) := by omega
 have ofb : ¬ (x.kind = 7 ∨ x.kind = 8) := by omega
 have omb : ¬ (x.kind = 9 ∨ x.kind = 10) := by omega
 have hne := hnd
 unfold Bs.l at hne
 simp only [List.nodup_cons, List.mem_cons, List.not_mem_nil, or_false, not_or, List.nodup_nil, and_true, not_false_eq_true] at hne
 obtain ⟨⟨a1, a2, a3, a4, a5, a6, a7⟩, ⟨b1, b2, b3, b4, b5, b6⟩, ⟨c1, c2, c3, c4, c5⟩, ⟨d1, d2, d3, d4⟩, ⟨e1, e2, e3⟩, ⟨f1, f2⟩, g1⟩ := hne
 refine ⟨mid_of h k ⟨x, ts⟩ (Or.inl ⟨b2, odb⟩) (Or.inl ⟨c1, osb⟩) (Or.inr (hm.congr (fun a b => (hid_on rs x ts hk a b).symm))) (Or.inl ⟨(Ne.symm d1), ofb⟩) (Or.inl ⟨(Ne.symm d2), omb⟩) (Ne.symm d3) (Ne.symm d4), k.mono (fun i _ h => by rw [h]; exact ⟨by simp [Bs.l], (Ne.symm a3)⟩)⟩
theorem mid_fb {w w' : World} {b : Bs} {rs : List Rw} (h : MapsIn w b rs) (hnd : b.l.Nodup) (k : Kept (fun q => q = b.fb) w w') (x : Ev) (ts : List ByteArray) (hk : x.kind = 7 ∨ x.kind = 8) (hm : Is2 okBool w' b.fb (rs.length + 1) (upd2 (boolF (folO rs)) x.person x.text (.bool (decide (x.kind = 7))))) : MapsMid w' b (rs ++ [⟨x, ts⟩]) rs ∧ Kept (NB b) w w' := by
 have odb : ¬ (x.kind = 2 ∨ x.kind = 3) := by omega
 have osb : ¬ (x.kind = 0) := by omega
 have ohb : ¬ (x.kind = 5 ∨ x.kind = 6) := by omega
 have omb : ¬ (x.kind = 9 ∨ x.kind = 10) := by omega
 have hne := hnd
 unfold Bs.l at hne
 simp only [List.nodup_cons, List.mem_cons, List.not_mem_nil, or_false, not_or, List.nodup_nil, and_true, not_false_eq_true] at hne
 obtain ⟨⟨a1, a2, a3, a4, a5, a6, a7⟩, ⟨b1, b2, b3, b4, b5, b6⟩, ⟨c1, c2, c3, c4, c5⟩, ⟨d1, d2, d3, d4⟩, ⟨e1, e2, e3⟩, ⟨f1, f2⟩, g1⟩ := hne
 refine ⟨mid_of h k ⟨x, ts⟩ (Or.inl ⟨b3, odb⟩) (Or.inl ⟨c2, osb⟩) (Or.inl ⟨d1, ohb⟩) (Or.inr (hm.congr (fun a b => (fol_on rs x ts hk a b).symm))) (Or.inl ⟨(Ne.symm e1), omb⟩) (Ne.symm e2) (Ne.symm e3), k.mono (fun i _ h => by rw [h]; exact ⟨by simp [Bs.l], (Ne.symm a4)⟩)⟩
theorem mid_mb {w w' : World} {b : Bs} {rs : List Rw} (h : MapsIn w b rs) (hnd : b.l.Nodup) (k : Kept (fun q => q = b.mb) w w') (x : Ev) (ts : List ByteArray) (hk : x.kind = 9 ∨ x.kind = 10) (hm : Is2 okBool w' b.mb (rs.length + 1) (upd2 (boolF (mutO rs)) x.person x.text (.bool (decide (x.kind = 9))))) : MapsMid w' b (rs ++ [⟨x, ts⟩]) rs ∧ Kept (NB b) w w' := by
 have odb : ¬ (x.kind = 2 ∨ x.kind = 3) := by omega
 have osb : ¬ (x.kind = 0) := by omega
 have ohb : ¬ (x.kind = 5 ∨ x.kind = 6) := by omega
 have ofb : ¬ (x.kind = 7 ∨ x.kind = 8) := by omega
 have hne := hnd
 unfold Bs.l at hne
 simp only [List.nodup_cons, List.mem_cons, List.not_mem_nil, or_false, not_or, List.nodup_nil, and_true, not_false_eq_true] at hne
 obtain ⟨⟨a1, a2, a3, a4, a5, a6, a7⟩, ⟨b1, b2, b3, b4, b5, b6⟩, ⟨c1, c2, c3, c4, c5⟩, ⟨d1, d2, d3, d4⟩, ⟨e1, e2, e3⟩, ⟨f1, f2⟩, g1⟩ := hne
 refine ⟨mid_of h k ⟨x, ts⟩ (Or.inl ⟨b4, odb⟩) (Or.inl ⟨c3, osb⟩) (Or.inl ⟨d2, ohb⟩) (Or.inl ⟨e1, ofb⟩) (Or.inr (hm.congr (fun a b => (mut_on rs x ts hk a b).symm))) (Ne.symm f1) (Ne.symm f2), k.mono (fun i _ h => by rw [h]; exact ⟨by simp [Bs.l], (Ne.symm a5)⟩)⟩
theorem mid_lik {w w' : World} {b : Bs} {rs : List Rw} {r : Rw} (h : MapsMid w b (rs ++ [r]) rs) (hnd : b.l.Nodup) (k : Kept (fun q => q = b.lb ∨ q = b.nb) w w')
  (hl : Is2 okBool w' b.lb (rs.length + 1) (setF (likB (rs ++ [r])))) (hn : MapIs Tryz.prog 9 okInt w' b.nb (rs.length + 1) (mapG (cntG (fansN (rs ++ [r]))))) : MapsIn w' b (rs ++ [r]) ∧ Kept (NB b) w w' := by
 have hne := hnd
 unfold Bs.l at hne
 simp only [List.nodup_cons, List.mem_cons, List.not_mem_nil, or_false, not_or, List.nodup_nil, and_true, not_false_eq_true] at hne
 obtain ⟨⟨a1, a2, a3, a4, a5, a6, a7⟩, ⟨b1, b2, b3, b4, b5, b6⟩, ⟨c1, c2, c3, c4, c5⟩, ⟨d1, d2, d3, d4⟩, ⟨e1, e2, e3⟩, ⟨f1, f2⟩, g1⟩ := hne
 refine ⟨h.end k (fun q _ _ h1 h2 h3 => h3.elim h1 h2) hnd hl hn, k.mono (fun i _ h => ?_)⟩
 rcases h with rfl | rfl
 ·exact ⟨by simp [Bs.l], Ne.symm a6⟩
 ·exact ⟨by simp [Bs.l], Ne.symm a7⟩
theorem lb_nb {b : Bs} (hnd : b.l.Nodup) : b.lb ≠ b.nb := by
 have hne := hnd
 unfold Bs.l at hne
 simp only [List.nodup_cons, List.mem_cons, List.not_mem_nil, or_false, not_or, List.nodup_nil, and_true, not_false_eq_true] at hne
 obtain ⟨⟨a1, a2, a3, a4, a5, a6, a7⟩, ⟨b1, b2, b3, b4, b5, b6⟩, ⟨c1, c2, c3, c4, c5⟩, ⟨d1, d2, d3, d4⟩, ⟨e1, e2, e3⟩, ⟨f1, f2⟩, g1⟩ := hne
 exact g1
end Go.Proofs.YthdmpcnnbminlaaGreatDoor
