/- The clock in memory, and what its small functions do: bound, active, told, rise, Mark, Now, New. -/
import Derived.Test.YtobkgkiomapabaaGreatDoorMapOps
import Derived.Test.YtobkgkiomapabaaGreatDoorProg
import Derived.Deep.QuietTactic
import Derived.BigQuiet
import Derived.RegionTactic
import Derived.StillTailTactics
import Derived.WalkLawsBesides
import Derived.Outline
namespace Go.Proofs.YtobkgkiomapabaaGreatDoor
open Go.RowKit Go.Maps

theorem ret_int {k : IntKind} {a b : Int} (h : a = b) : Ending.returned (.int k a) = .returned (.int k b) := by rw [h]

/-- A source: how far it has come, and when it was heard last. -/
def srcV (x : Int × Int) : Value := .agg #[.int .i64 x.1, .int .i64 x.2]
def okSrcL : List Value → Bool
  | [.int .i64 a, .int .i64 h] => decide (0 ≤ a ∧ a ≤ 1099511627776 ∧ 0 ≤ h ∧ h ≤ 1099511627776)
  | _ => false
def okSrc : Value → Bool
  | .agg cs => okSrcL cs.toList
  | _ => false
theorem okSrc_mk {a h : Int} (h1 : 0 ≤ a) (h2 : a ≤ 1099511627776) (h3 : 0 ≤ h) (h4 : h ≤ 1099511627776) : okSrc (srcV (a, h)) = true := by
  simp [okSrc, okSrcL, srcV]; omega
theorem okSrc_inv {v : Value} (h : okSrc v = true) : ∃ x : Int × Int, v = .agg #[.int .i64 x.1, .int .i64 x.2] ∧ 0 ≤ x.1 ∧ x.1 ≤ 1099511627776 ∧ 0 ≤ x.2 ∧ x.2 ≤ 1099511627776 := by
  unfold okSrc at h
  split at h
  · rename_i cs
    unfold okSrcL at h
    split at h
    · rename_i a b e
      obtain ⟨l⟩ := cs
      dsimp only at e
      subst e
      exact ⟨(a, b), rfl, by simpa using h⟩
    · cases h
  · cases h
theorem srcV_inj {x y : Int × Int} (h : srcV x = srcV y) : x = y := by
  simp [srcV] at h
  exact Prod.ext h.1 h.2

structure Ck where
  slack : Int
  idle : Int
  now : Int
  mark : Int
  src : List UInt8 → Option (Int × Int)

structure Ck.Ok (c : Ck) : Prop where
  s0 : 0 ≤ c.slack
  s1 : c.slack ≤ 1099511627776
  i0 : 0 ≤ c.idle
  i1 : c.idle ≤ 1099511627776
  n0 : 0 ≤ c.now
  n1 : c.now ≤ 1099511627776
  m0 : -1 ≤ c.mark
  m1 : c.mark ≤ 1099511627776

def srcM (f : List UInt8 → Option (Int × Int)) : Lit → Option Value
  | .string s => (f s).map srcV
  | _ => none

def ckCells (c : Ck) (mb : Nat) : Array Value := #[.int .i64 c.slack, .int .i64 c.idle, .int .i64 c.now, .int .i64 c.mark, .map (some mb)]

/-- The clock c lies in block cb, its sources in the map of block mb, at most n. -/
structure ClockAt (w : World) (cb mb n : Nat) (c : Ck) : Prop where
  blk : Blk w cb 49 (ckCells c mb)
  map : MapIs Tryz.prog 9 okSrc w mb n (srcM c.src)
  ok : c.Ok

theorem ClockAt.src_ok {w : World} {cb mb n : Nat} {c : Ck} (h : ClockAt w cb mb n c) {s : List UInt8} {x : Int × Int} (hx : c.src s = some x) : 0 ≤ x.1 ∧ x.1 ≤ 1099511627776 ∧ 0 ≤ x.2 ∧ x.2 ≤ 1099511627776 := by
  have := h.map.ok_of (kl := .string s) (v := srcV x) (by simp [srcM, hx])
  obtain ⟨y, hy, hb⟩ := okSrc_inv this
  have : x = y := srcV_inj hy
  subst this
  exact hb

theorem ClockAt.kept {S : Nat → Prop} {w w' : World} {cb mb n : Nat} {c : Ck} (h : ClockAt w cb mb n c) (k : Kept S w w') (h1 : ¬ S cb) (h2 : ¬ S mb) : ClockAt w' cb mb n c :=
  ⟨h.blk.kept k h1, h.map.kept k h2, h.ok⟩

def bnd (n : Int) : Int := min (max n 0) 1099511627776
theorem bnd_ok (n : Int) : 0 ≤ bnd n ∧ bnd n ≤ 1099511627776 := by unfold bnd; omega

theorem bound_any (n : Int) (w : World) : Calls Tryz.prog 30 #[.int .i64 n] w fun e w' => e = .returned (.int .i64 (bnd n)) ∧ w = w' := by
  go_enter Tryz.func30, Tryz.ntmps30
  go_wp2
  all_goals
    go_ret
    exact ⟨ret_int (by unfold bnd; omega), rfl⟩

theorem mark_any (cb mb : Nat) (c : Ck) (w : World) (h : Blk w cb 49 (ckCells c mb)) : Calls Tryz.prog 11 #[.pointer (some ⟨cb, 0, none⟩)] w fun e w' => e = .returned (.int .i64 c.mark) ∧ w = w' := by
  have hc : w.cell? ⟨cb, 3, none⟩ = some (.int .i64 c.mark) := h.cell 3
  go_enter Tryz.func11, Tryz.ntmps11
  go_wp2
  go_ret
  exact ⟨rfl, rfl⟩

theorem now_any (cb mb : Nat) (c : Ck) (w : World) (h : Blk w cb 49 (ckCells c mb)) : Calls Tryz.prog 23 #[.pointer (some ⟨cb, 0, none⟩)] w fun e w' => e = .returned (.int .i64 c.now) ∧ w = w' := by
  have hc : w.cell? ⟨cb, 2, none⟩ = some (.int .i64 c.now) := h.cell 2
  go_enter Tryz.func23, Tryz.ntmps23
  go_wp2
  go_ret
  exact ⟨rfl, rfl⟩

/-- Is a source active? -/
def act (c : Ck) (x : Int × Int) : Bool := c.idle == 0 || decide (c.now - x.2 ≤ c.idle)

theorem active_any (cb mb : Nat) (c : Ck) (x : Int × Int) (w : World) (h : Blk w cb 49 (ckCells c mb)) (ho : c.Ok) (hx0 : 0 ≤ x.2) (hx1 : x.2 ≤ 1099511627776) :
    Calls Tryz.prog 39 #[.pointer (some ⟨cb, 0, none⟩), .agg #[.int .i64 x.1, .int .i64 x.2]] w fun e w' => e = .returned (.bool (act c x)) ∧ Below w.heap.size w w' := by
  have hlt := h.lt
  have c1 : w.cell? ⟨cb, 1, none⟩ = some (.int .i64 c.idle) := h.cell 1
  have c2 : w.cell? ⟨cb, 2, none⟩ = some (.int .i64 c.now) := h.cell 2
  obtain ⟨s0, s1, i0, i1, n0, n1, m0, m1⟩ := ho
  obtain ⟨x1, x2⟩ := x
  dsimp only at hx0 hx1 ⊢
  by_cases hi : c.idle = 0
  · have hb : (c.idle == 0) = true := by simpa using hi
    have ha : act c (x1, x2) = true := by simp [act, hi]
    rw [ha]
    clear ha hi
    go_enter Tryz.func39, Tryz.ntmps39
    go_wp2
    go_quiet (fail)
    go_wp2
    go_ret
    exact ⟨rfl, below_drewN ((Below.refl _ _).alloc (Nat.le_refl _) _) _⟩
  · have hb : (c.idle == 0) = false := by simpa using hi
    have ha : act c (x1, x2) = decide (c.now - x2 ≤ c.idle) := by simp [act, hi]
    rw [ha]
    clear ha hi
    go_enter Tryz.func39, Tryz.ntmps39
    go_wp2
    go_quiet (fail)
    go_wp2
    go_ret
    exact ⟨rfl, below_drewN ((Below.refl _ _).alloc (Nat.le_refl _) _) _⟩

end Go.Proofs.YtobkgkiomapabaaGreatDoor
