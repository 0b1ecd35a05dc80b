/- event.Sort: a copy, sorted. -/
import Derived.Test.YtdcinodbgbkobaaGreatDoorSbS
import Derived.Test.YtdcinodbgbkobaaGreatDoorGa
namespace Go.Proofs.YtdcinodbgbkobaaGreatDoor
open Go.Shelf Go.RowKit Go.Lib Go.Sort
set_option linter.unusedVariables false

theorem eown_empty (w : World) (e : TypeId) (size : Nat) : (w.alloc (.cells #[] e)).ownsRow w.heap.size e size (.slice (some ⟨w.heap.size, 0, none⟩) 0 0) 0 [] :=
  ⟨by simp, Or.inr ⟨w.heap.size, 0, #[], rfl, Nat.le_refl _, heap_alloc_new w _, Nat.le_refl _, Nat.zero_le _, by simp, by simp⟩⟩
theorem eown_nil (w : World) (base : Nat) (e : TypeId) (size : Nat) : w.ownsRow base e size (.slice none 0 0) 0 [] := ⟨by simp, Or.inl ⟨rfl, rfl⟩⟩

set_option maxHeartbeats 1000000 in
set_option maxRecDepth 100000 in
/-- slices.Clone of events: a row of the call's own. -/
theorem eclone_any (w : World) (B : Nat) (A : Option Addr) (l : List Ev) (n c : Nat) (hn : l.length = n) (hl : EvsAt w B A l) (hB : B ≤ w.heap.size) (hnil : A = none → c = 0) (hb : n ≤ 1000000) :
    Calls Tryz.prog 16 #[.slice A n c] w fun e w' => ∃ v, e = .returned v ∧ w'.ownsRow w.heap.size 41 8 v n (l.flatMap evC) ∧ Below w.heap.size w w' := by
  obtain ⟨i0, hi0, hz0, hz1, hz2⟩ := info_parts ev_info
  have hen : ∀ (a : Option Addr) (l c : Nat) (W : World), (binOp .eql 23 (.slice a l c) (.slice none 0 0)).run Tryz.prog W = .ok (.bool a.isNone) W := fun a l c W => Lib.run_eql_slice_nil _ _ _ _ _ _ _ _ Tryz.underlying23
  cases A with
  | none =>
    have hc := hnil rfl
    subst hc
    have h0 : n = 0 := by
      rcases hl.2 with h | ⟨b, off, h, _⟩
      · omega
      · cases h
    subst h0
    obtain rfl : l = [] := List.eq_nil_of_length_eq_zero hn
    clear hl hnil hn
    go_enter Tryz.func16, Tryz.ntmps16
    go_wp2_with fail
    go_ret
    exact ⟨_, rfl, eown_nil _ _ _ _, Below.refl _ _⟩
  | some ad =>
    have r0 : RowIn (w.alloc (.cells #[] 41)) B 8 (some ad) n (l.flatMap evC) := by
      have := RowIn.alloc hl hB (.cells #[] 41)
      rwa [hn] at this
    have HR := Lib.hid r0
    have HO := Lib.hid (eown_empty w 41 8)
    have HONE := Lib.hid (evC_one l)
    clear hl r0 hnil hn
    go_enter Tryz.func16, Tryz.ntmps16
    go_wp2_with (at_builtin; refine wpList_append_row _ rfl (.tmp 5) (.tmp 6) 23 rfl w.heap.size 41 i0 _ 8 96 Tryz.underlying23 hi0 hz0 hz1 hz2 rfl (by omega) _ 0 [] rfl HO.out B (some ad) n c _ rfl HR.out (fun h => by cases h) HONE.out (by unfold maxLen; omega) (by omega) (by simp) ?_; intro v w1 ho hg hv)
    go_ret
    refine ⟨v, rfl, ?_, ?_⟩
    · rw [Nat.zero_add, List.nil_append] at ho
      exact ho
    · have h4 : Kept (fun i => w.heap.size ≤ i) w w1 := ((Kept.refl _ w).alloc _).grown hg (fun j hj => Or.inr (by cases hj; exact Nat.le_refl _))
      exact h4.toBelow (fun i hi => hi) (Nat.le_refl _)

set_option maxHeartbeats 1000000 in
set_option maxRecDepth 100000 in
theorem ins_nil (w : World) (cmp : Value) : Calls Tryz.prog 62 #[.slice none 0 0, .int .i64 0, .int .i64 0, cmp] w fun e w' => e = .returned (.tuple #[]) ∧ w' = w := by
  go_enter Tryz.func62, Tryz.ntmps62
  go_wp2_with fail
  go_loopw [8] (fun vi wr => vi = .int .i64 1 ∧ wr = w) (fun vi _ => 0)
  case atStart => exact ⟨rfl, rfl⟩
  case round =>
    obtain ⟨rfl, rfl⟩ := hrel
    go_wp2_with fail
    go_end0
    exact ⟨rfl, rfl⟩
set_option maxHeartbeats 1000000 in
set_option maxRecDepth 100000 in
theorem stable_nil (w : World) (cmp : Value) : Calls Tryz.prog 43 #[.slice none 0 0, .int .i64 0, cmp] w fun e w' => e = .returned (.tuple #[]) ∧ w' = w := by
  have HI := Lib.hid (ins_nil w cmp)
  go_enter Tryz.func43, Tryz.ntmps43
  go_wp2_with fail
  go_loopw [7, 8] (fun vi vj wr => vi = .int .i64 0 ∧ vj = .int .i64 20 ∧ wr = w) (fun vi _ _ => 0)
  case atStart => exact ⟨rfl, rfl, rfl⟩
  case round =>
    obtain ⟨rfl, rfl, rfl⟩ := hrel
    go_wp2_with fail
    refine HI.out.mono ?_
    rintro e w1 ⟨rfl, rfl⟩
    go_wp2_with fail
    go_loopw [6] (fun vi wr => vi = .int .i64 20 ∧ wr = w1) (fun vi _ => 0)
    case atStart => exact ⟨rfl, rfl⟩
    case round =>
      obtain ⟨rfl, rfl⟩ := hrel
      go_wp2_with fail
      go_end0
      exact ⟨rfl, rfl⟩
set_option maxHeartbeats 1000000 in
set_option maxRecDepth 100000 in
theorem sortStable_any (w0 : World) (blk off n : Nat) (d0 : Array Ev) (R : SbRow w0 blk off n d0) (cap : Nat) (d : Array Ev) (W : World) (h : SbIn w0 blk off n d W) :
    Calls Tryz.prog 17 #[.slice (some ⟨blk, off, none⟩) n cap, .func (.func 18) #[] #[]] W fun e w' => e = .returned (.tuple #[]) ∧ ∃ d', PsOf 0 n d d' ∧ SbIn w0 blk off n d' w' := by
  have HC := Lib.hid (stable_any w0 blk off n d0 R cap d W h)
  have hn := R.few
  clear R h
  go_enter Tryz.func17, Tryz.ntmps17
  go_wp2_with fail
  refine HC.out.mono ?_
  rintro e w1 ⟨rfl, d1, h1, h2⟩
  have H1 := Lib.hid h1
  have H2 := Lib.hid h2
  clear HC h1 h2
  go_wp2_with fail
  go_end0
  exact ⟨rfl, d1, H1.out, H2.out⟩
set_option maxHeartbeats 1000000 in
set_option maxRecDepth 100000 in
theorem sortStable_nil (w : World) (cmp : Value) : Calls Tryz.prog 17 #[.slice none 0 0, cmp] w fun e w' => e = .returned (.tuple #[]) ∧ w' = w := by
  have HC := Lib.hid (stable_nil w cmp)
  go_enter Tryz.func17, Tryz.ntmps17
  go_wp2_with fail
  refine HC.out.mono ?_
  rintro e w1 ⟨rfl, rfl⟩
  go_wp2_with fail
  go_end0
  exact ⟨rfl, rfl⟩
set_option maxHeartbeats 1000000 in
set_option maxRecDepth 100000 in
theorem clip_any (w : World) (A : Option Addr) (n c : Nat) (hc : n ≤ c) (hb : n ≤ 1000000) : Calls Tryz.prog 19 #[.slice A n c] w fun e w' => e = .returned (.slice A n n) ∧ w' = w := by
  go_enter Tryz.func19, Tryz.ntmps19
  go_wp2_with fail
  go_ret
  exact ⟨rfl, rfl⟩
end Go.Proofs.YtdcinodbgbkobaaGreatDoor
