/- What told tells: the least, of all active sources, of how far it has come less the slack less one; whether there is one. -/
import Derived.Test.YtobkgkiomapabaaGreatDoorClk
namespace Go.Proofs.YtobkgkiomapabaaGreatDoor
open Go.RowKit Go.Maps

/-- Of the sources that have been gone through ('seen'): the least that they tell, if one is active. -/
def Partly (c : Ck) (seen : List UInt8 → Prop) (least : Int) (any : Bool) : Prop :=
  (any = false ∧ least = 0 ∧ ∀ s x, c.src s = some x → seen s → act c x = false) ∨
  (any = true ∧ (∃ s x, c.src s = some x ∧ act c x = true ∧ least = x.1 - c.slack - 1) ∧ ∀ s x, c.src s = some x → seen s → act c x = true → least ≤ x.1 - c.slack - 1)

/-- What the sources tell. -/
def Told (c : Ck) (least : Int) (any : Bool) : Prop := Partly c (fun _ => True) least any

theorem Told.unique {c : Ck} {m m' : Int} {a a' : Bool} (h : Told c m a) (h' : Told c m' a') : m = m' ∧ a = a' := by
  rcases h with ⟨rfl, rfl, h⟩ | ⟨rfl, ⟨s, x, hs, hx, rfl⟩, h⟩ <;> rcases h' with ⟨rfl, rfl, h'⟩ | ⟨rfl, ⟨s', x', hs', hx', rfl⟩, h'⟩
  · exact ⟨rfl, rfl⟩
  · have := h s' x' hs' trivial; rw [hx'] at this; cases this
  · have := h' s x hs trivial; rw [hx] at this; cases this
  · have h1 := h s' x' hs' trivial hx'
    have h2 := h' s x hs trivial hx
    exact ⟨by omega, rfl⟩

theorem Partly.start (c : Ck) {seen : List UInt8 → Prop} (h : ∀ s x, c.src s = some x → ¬ seen s) : Partly c seen 0 false :=
  Or.inl ⟨rfl, rfl, fun s x hs hn => absurd hn (h s x hs)⟩

theorem Partly.idle {c : Ck} {seen seen' : List UInt8 → Prop} {least : Int} {any : Bool} {k : List UInt8} {x : Int × Int} (h : Partly c seen least any) (hk : c.src k = some x) (ha : act c x = false) (hs : ∀ s, seen' s → seen s ∨ s = k) : Partly c seen' least any := by
  rcases h with ⟨h1, h2, h3⟩ | ⟨h1, h2, h3⟩
  · refine Or.inl ⟨h1, h2, fun s y hy hn => ?_⟩
    rcases hs s hn with h | rfl
    · exact h3 s y hy h
    · rw [hk] at hy; cases hy; exact ha
  · refine Or.inr ⟨h1, h2, fun s y hy hn hact => ?_⟩
    rcases hs s hn with h | rfl
    · exact h3 s y hy h hact
    · rw [hk] at hy; cases hy; rw [ha] at hact; cases hact

theorem Partly.takes {c : Ck} {seen seen' : List UInt8 → Prop} {least : Int} {any : Bool} {k : List UInt8} {x : Int × Int} (h : Partly c seen least any) (hk : c.src k = some x) (ha : act c x = true) (hs : ∀ s, seen' s → seen s ∨ s = k)
    (hl : any = false ∨ x.1 - c.slack - 1 < least) : Partly c seen' (x.1 - c.slack - 1) true := by
  refine Or.inr ⟨rfl, ⟨k, x, hk, ha, rfl⟩, fun s y hy hn hact => ?_⟩
  rcases hs s hn with h' | rfl
  · rcases h with ⟨h1, h2, h3⟩ | ⟨h1, h2, h3⟩
    · have := h3 s y hy h'; rw [hact] at this; cases this
    · have := h3 s y hy h' hact
      rcases hl with hl | hl
      · rw [hl] at h1; cases h1
      · omega
  · rw [hk] at hy; cases hy; exact Int.le_refl _

theorem Partly.leaves {c : Ck} {seen seen' : List UInt8 → Prop} {least : Int} {k : List UInt8} {x : Int × Int} (h : Partly c seen least true) (hk : c.src k = some x) (hs : ∀ s, seen' s → seen s ∨ s = k)
    (hl : least ≤ x.1 - c.slack - 1) : Partly c seen' least true := by
  rcases h with ⟨h1, h2, h3⟩ | ⟨h1, h2, h3⟩
  · cases h1
  · refine Or.inr ⟨rfl, h2, fun s y hy hn hact => ?_⟩
    rcases hs s hn with h | rfl
    · exact h3 s y hy h hact
    · rw [hk] at hy; cases hy; exact hl

theorem srcM_some {f : List UInt8 → Option (Int × Int)} {s : List UInt8} {v : Value} (h : srcM f (.string s) = some v) : ∃ x, f s = some x ∧ v = srcV x := by
  simp only [srcM, Option.map_eq_some_iff] at h
  obtain ⟨x, h1, h2⟩ := h
  exact ⟨x, h1, h2.symm⟩

theorem mk_src {v : Value} (h : okSrc v = true) : ∃ x : Int × Int, v = .agg #[.int .i64 x.1, .int .i64 x.2] := by
  obtain ⟨x, hx, _⟩ := okSrc_inv h
  exact ⟨x, hx⟩

theorem seen_step {left : Lit → Bool} {k : List UInt8} : ∀ s, (left (.string s) && !(Lit.string s).sameKey (.string k)) = false → left (.string s) = false ∨ s = k := by
  intro s hs
  cases h1 : left (.string s)
  · exact Or.inl rfl
  · rw [h1, Bool.true_and, Bool.not_eq_false'] at hs
    have := WideAt.sameKey_eq hs
    injection this with this
    exact Or.inr this

set_option maxHeartbeats 1000000 in
set_option maxRecDepth 100000 in
theorem told_any (cb mb n : Nat) (c : Ck) (w : World) (h : ClockAt w cb mb n c) :
    Calls Tryz.prog 17 #[.pointer (some ⟨cb, 0, none⟩)] w fun e w' => ∃ m any, e = .returned (.tuple #[.int .i64 m, .bool any]) ∧ Told c m any ∧ Below w.heap.size w w' := by
  have hlt := h.blk.lt
  have hml := h.map.lt
  have c4 : w.cell? ⟨cb, 4, none⟩ = some (.map (some mb)) := h.blk.cell 4
  go_enter Tryz.func17, Tryz.ntmps17
  go_wp2_with (first
    | (at_range; refine wpList_rangeM _ rfl _ 47 rfl 9 52 (string_keyed Tryz.underlying9) Tryz.underlying47 okSrc mb n _ rfl h.map ?_; intro w0 cnt0 hrg0 hg0 hs0 hc0)
    | fail)
  go_frame
  go_loopw [4, 5] (fun l a wr => ∃ (left : Lit → Bool) (cnt : Nat) (least : Int) (any : Bool), MapGoes Tryz.prog 9 okSrc wr mb w.heap.size n (srcM c.src) left cnt ∧ Below w.heap.size w wr ∧ l = .int .i64 least ∧ a = .bool any ∧ Partly c (fun s => left (.string s) = false) least any ∧ -1099511627777 ≤ least ∧ least ≤ 1099511627776)
    (fun _ _ wr => wr.rangeLeft mb w.heap.size)
  case atStart =>
    refine ⟨_, _, 0, false, hrg0, (Below.refl _ _).grown hg0 (Nat.le_refl _) (by simp), rfl, rfl, Partly.start c (fun s x hx => by simp [srcM, hx]), by omega, by omega⟩
  case round =>
    obtain ⟨left, cnt, least, any, hrg, hbel, rfl, rfl, hpart, hl0, hl1⟩ := hrel
    go_wp2_with (first
      | (at_next; refine wpList_nextS _ rfl _ rfl 9 Tryz.underlying9 okSrc (fun x : Int × Int => .agg #[.int .i64 x.1, .int .i64 x.2]) (fun v hv => mk_src hv) mb w.heap.size n _ _ _ rfl hrg ?_ ?_)
      | fail)
    · intro _ hl
      go_wp2
      go_ret2
      refine ⟨least, any, rfl, ?_, hbel⟩
      rcases hpart with ⟨h1, h2, h3⟩ | ⟨h1, h2, h3⟩
      · exact Or.inl ⟨h1, h2, fun s x hx _ => h3 s x hx (hl _)⟩
      · exact Or.inr ⟨h1, h2, fun s x hx _ => h3 s x hx (hl _)⟩
    · intro s x1 x2 w1 cnt1 hsz hlk hok hM hrg1 hlt1 hg1 hs1 hen
      have hbel1 : Below w.heap.size w w1 := hbel.grown hg1 hbel.size (by intro j hj; cases hj; exact Nat.le_refl _)
      obtain ⟨x', hx', e1⟩ := srcM_some hM
      obtain rfl : (x1, x2) = x' := srcV_inj e1
      clear e1 hM
      obtain ⟨b0, b1, b2, b3⟩ := h.src_ok hx'
      have HX := Lib.hid hx'
      clear hx'
      obtain ⟨s0, s1, _, _, _, _, _, _⟩ := h.ok
      have hbk1 : Blk (w1.alloc (.cells #[.int .i64 x1, .int .i64 x2] 52)) cb 49 (ckCells c mb) := Blk.alloc ((hbel1.block cb hlt).trans h.blk) _
      go_wp2_with fail
      refine (active_any cb mb c (x1, x2) _ hbk1 h.ok b2 b3).mono ?_
      rintro e w2 ⟨rfl, hb2⟩
      have hz : (w1.alloc (.cells #[.int .i64 x1, .int .i64 x2] 52)).heap.size = w1.heap.size + 1 := by simp
      have k0 : w2.cell? ⟨cb, 0, none⟩ = some (.int .i64 c.slack) := (hb2.cell (p := ⟨cb, 0, none⟩) (by have := hbk1.lt; exact this)).trans (hbk1.cell 0)
      have hbx : Blk (w1.alloc (.cells #[.int .i64 x1, .int .i64 x2] 52)) w1.heap.size 52 #[.int .i64 x1, .int .i64 x2] := Blk.new _ _ _
      have q0 : w2.cell? ⟨w1.heap.size, 0, none⟩ = some (.int .i64 x1) := (hb2.cell (p := ⟨w1.heap.size, 0, none⟩) hbx.lt).trans (hbx.cell 0)
      rw [hs1] at q0
      have hbel2 : Below w.heap.size w w2 := (hbel1.alloc hbel1.size _).trans (hb2.mono (by have := hbel1.size; omega))
      have hrg2 : MapGoes Tryz.prog 9 okSrc w2 mb w.heap.size n (srcM c.src) (fun z => left z && !z.sameKey (.string s.data.toList)) cnt1 := by
        have hz1 := hrg1.alloc (.cells #[.int .i64 x1, .int .i64 x2] 52)
        exact hz1.kept (S := fun _ => False) ⟨hb2.os, hb2.tape, hb2.output, hb2.size, fun i hi _ => hb2.block i hi⟩ (by simp) (by simp)
      have HM : Hid (w2.rangeLeft mb w.heap.size < wr.rangeLeft mb w.heap.size) := by
        show _ < _
        rw [hrg2.left_eq, hrg.left_eq]; exact hlt1
      clear hz hbx hbk1 hb2 hen hs1 hg1 hrg1 hrg hbel hbel1
      cases hact : act c (x1, x2)
      · go_wp2
        go_roundw
        case rel => exact ⟨_, _, least, any, hrg2, hbel2, rfl, rfl, hpart.idle HX.out hact seen_step, hl0, hl1⟩
        case measure => exact HM.out
      · cases any
        · go_wp2
          go_quiet (fail)
          go_wp2
          go_roundw
          case rel => exact ⟨_, _, x1 - c.slack - 1, true, hrg2.drewN _, below_drewN hbel2 _, rfl, rfl, hpart.takes HX.out hact seen_step (Or.inl rfl), by omega, by omega⟩
          case measure => exact HM.out
        · by_cases hle : x1 - c.slack - 1 < least
          · go_wp2
            go_quiet (fail)
            go_wp2
            go_roundw
            case rel => exact ⟨_, _, x1 - c.slack - 1, true, hrg2.drewN _, below_drewN hbel2 _, rfl, rfl, hpart.takes HX.out hact seen_step (Or.inr hle), by omega, by omega⟩
            case measure => exact HM.out
          · go_wp2
            go_quiet (fail)
            go_wp2
            go_roundw
            case rel => exact ⟨_, _, least, true, hrg2.drewN _, below_drewN hbel2 _, rfl, rfl, hpart.leaves HX.out seen_step (by omega), hl0, hl1⟩
            case measure => exact HM.out

end Go.Proofs.YtobkgkiomapabaaGreatDoor
