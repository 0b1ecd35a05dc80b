/- Rank of the document. -/
import Derived.Test.YtiaklkfdgnhonaaDoorFits
namespace Go.Proofs.YtiaklkfdgnhonaaDoor
open Go.Shelf Go.RowKit Go.Lib Go.Sort Go.Maps
set_option linter.unusedVariables false

theorem beq_false {a b : ByteArray} (h : a ≠ b) : (a.toList == b.toList) = false := Bool.eq_false_iff.2 (fun e => h ((beq_list a b).1 e))

/-- The k-th stands in the i-th's way. -/
def wayB (i k : Nat) (x y : Ch) : Bool := decide (y.item = x.item) && (decide (aheadI y x < 0) || (eqB y x && decide (k < i)))
theorem wayB_iff {l : List Ch} {i k : Nat} {x y : Ch} (hx : l[i]? = some x) (hy : l[k]? = some y) : wayB i k x y = true ↔ badB l i k := by
  unfold wayB badB
  simp only [Bool.and_eq_true, Bool.or_eq_true, decide_eq_true_eq, eqB_iff]
  constructor
  · intro h; exact ⟨x, y, hx, hy, h⟩
  · rintro ⟨x', y', hx', hy', h⟩
    rw [hx] at hx'
    rw [hy] at hy'
    cases hx'
    cases hy'
    exact h

theorem stay_best {l : List Ch} {i k : Nat} {bb : Bool} (h : bb = true ↔ ∀ k', k' < k → ¬ badB l i k') (hn : ¬ badB l i k) : bb = true ↔ ∀ k', k' < k + 1 → ¬ badB l i k' := by
  rw [h]
  constructor
  · intro h1 k' hk'
    by_cases e : k' = k
    · subst e; exact hn
    · exact h1 k' (by omega)
  · intro h1 k' hk'; exact h1 k' (by omega)
theorem lose_best {l : List Ch} {i k : Nat} (hn : badB l i k) : false = true ↔ ∀ k', k' < k + 1 → ¬ badB l i k' :=
  ⟨fun h => (by cases h), fun h => absurd hn (h k (by omega))⟩

/-- How far the putting in is. -/
def NextIs (x : Ch) (out : List Ch) (k : Nat) (d : Bool) (nx : List Ch) : Prop :=
  (d = false ∧ nx = out.take k ∧ ∀ z ∈ out.take k, ¬ aheadI x z < 0) ∨ (d = true ∧ nx = putIn x (out.take k) ∧ ∃ z ∈ out.take k, aheadI x z < 0)
theorem NextIs.zero (x : Ch) (out : List Ch) : NextIs x out 0 false [] := Or.inl ⟨rfl, by simp, by simp⟩
theorem NextIs.stay {x z : Ch} {out nx : List Ch} {k : Nat} (h : NextIs x out k false nx) (hz : out[k]? = some z) (hn : ¬ aheadI x z < 0) : NextIs x out (k + 1) false (nx ++ [z]) := by
  have ht : out.take (k + 1) = out.take k ++ [z] := by rw [List.take_add_one, hz]; rfl
  rcases h with ⟨_, h1, h2⟩ | ⟨h0, _⟩
  · refine Or.inl ⟨rfl, by rw [h1, ht], fun u hu => ?_⟩
    rw [ht] at hu
    rcases List.mem_append.1 hu with hu | hu
    · exact h2 u hu
    · simp at hu; rw [hu]; exact hn
  · cases h0
theorem NextIs.here {x z : Ch} {out nx : List Ch} {k : Nat} (h : NextIs x out k false nx) (hz : out[k]? = some z) (hn : aheadI x z < 0) : NextIs x out (k + 1) true ((nx ++ [x]) ++ [z]) := by
  have ht : out.take (k + 1) = out.take k ++ [z] := by rw [List.take_add_one, hz]; rfl
  rcases h with ⟨_, h1, h2⟩ | ⟨h0, _⟩
  · refine Or.inr ⟨rfl, ?_, z, by rw [ht]; simp, hn⟩
    rw [ht, putIn_here x z _ h2 hn, h1]
    simp
  · cases h0
theorem NextIs.more {x z : Ch} {out nx : List Ch} {k : Nat} (h : NextIs x out k true nx) (hz : out[k]? = some z) : NextIs x out (k + 1) true (nx ++ [z]) := by
  have ht : out.take (k + 1) = out.take k ++ [z] := by rw [List.take_add_one, hz]; rfl
  rcases h with ⟨h0, _⟩ | ⟨_, h1, u, hu, h2⟩
  · cases h0
  · refine Or.inr ⟨rfl, ?_, u, by rw [ht]; exact List.mem_append.2 (Or.inl hu), h2⟩
    rw [ht, putIn_app x _ _ ⟨u, hu, h2⟩, h1]
theorem NextIs.none {x : Ch} {out nx : List Ch} (h : NextIs x out out.length false nx) : nx ++ [x] = putIn x out := by
  rcases h with ⟨_, h1, h2⟩ | ⟨h0, _⟩
  · rw [List.take_length] at h1 h2
    rw [putIn_none x out h2, h1]
  · cases h0
theorem NextIs.all {x : Ch} {out nx : List Ch} (h : NextIs x out out.length true nx) : nx = putIn x out := by
  rcases h with ⟨h0, _⟩ | ⟨_, h1, _⟩
  · cases h0
  · rw [List.take_length] at h1; exact h1
theorem NextIs.len {x : Ch} {out nx : List Ch} {k : Nat} (h : NextIs x out k false nx) : nx.length ≤ k := by
  rcases h with ⟨_, h1, h2⟩ | ⟨h0, _⟩
  · rw [h1]; exact List.length_take_le _ _
  · cases h0
theorem own_snoc {w : World} {base e : Nat} {v : Value} {nx : List Ch} {x : Ch} (h : w.ownsRow base e 4 v (nx.length + 1) (nx.flatMap chC ++ chC x)) : w.ownsRow base e 4 v (nx ++ [x]).length ((nx ++ [x]).flatMap chC) := by
  rw [List.flatMap_append, List.length_append, show [x].flatMap chC = chC x from by simp]
  exact h
theorem own_snoc2 {w : World} {base e : Nat} {v : Value} {nx : List Ch} {x z : Ch} (h : w.ownsRow base e 4 v (nx.length + 1 + 1) (nx.flatMap chC ++ chC x ++ chC z)) : w.ownsRow base e 4 v ((nx ++ [x]) ++ [z]).length (((nx ++ [x]) ++ [z]).flatMap chC) := by
  rw [List.flatMap_append, List.flatMap_append, List.length_append, List.length_append, show [x].flatMap chC = chC x from by simp, show [z].flatMap chC = chC z from by simp]
  exact h
theorem below_app {B : Nat} {wb w w' : World} {o : Obj} {row : Option Nat} (hb : Below B wb w) (hB : B ≤ wb.heap.size) (hg : (w.alloc o).grownBy w' row) (hr : ∀ j, row = some j → B ≤ j) : Below B wb w' := by
  have h1 : Below B wb (w.alloc o) := ⟨hb.os, hb.tape, hb.output, Nat.le_trans hb.size (by simp), fun i hi => (by
    rcases Nat.lt_or_ge i w.heap.size with h | h
    · exact (Below.heap_alloc w o i h).trans (hb.block i hi)
    · have h2 := hb.size
      exact absurd h (by omega))⟩
  exact ⟨hg.os.trans h1.os, hg.tape.trans h1.tape, hg.output.trans h1.output, Nat.le_trans h1.size hg.size, fun i hi => (by
    rcases Nat.lt_or_ge i (w.alloc o).heap.size with h | h
    · exact (hg.block i h (fun e => by have := hr i e.symm; omega)).trans (h1.block i hi)
    · have h2 := h1.size
      exact absurd h (by omega))⟩

set_option maxHeartbeats 2000000 in
set_option maxRecDepth 100000 in
theorem refrank_any (w : World) (B : Nat) (A : Option Addr) (l : List Ch) (n c : Nat) (hn : l.length = n) (hl : ChsAt w B A l) (hB : B ≤ w.heap.size) (hb : n ≤ 1000) :
    Calls Tryd.prog 15 #[.slice A n c] w fun e w' => ∃ v, e = .returned v ∧ w'.ownsRow w.heap.size 32 4 v (rankP l).length ((rankP l).flatMap chC) ∧ Below w.heap.size w w' := by
  obtain ⟨i0, hi0, hz0, hz1, hz2⟩ := info_parts ch_info
  obtain ⟨w1, hw1⟩ : ∃ w1, w.alloc (.cells #[] 32) = w1 := ⟨_, rfl⟩
  have HO1 : Hid (w1.ownsRow w.heap.size 32 4 (.slice (some ⟨w.heap.size, 0, none⟩) 0 0) 0 []) := Lib.hid (by rw [← hw1]; exact own_empty _ _ _)
  have HB1 : Hid (Below w.heap.size w w1) := Lib.hid (by rw [← hw1]; exact (Below.refl _ _).alloc (Nat.le_refl _) _)
  have HL := Lib.hid hl
  have HN := Lib.hid hn
  clear hl hn
  go_enter Tryd.func15, Tryd.ntmps15
  go_wp2_with fail
  clear hw1
  go_loopw [3, 4] (fun v i wr => ∃ (k : Nat) (out : List Ch), k ≤ n ∧ i = .int .i64 k ∧ out.length ≤ k ∧ Hid (RefTo l k out) ∧ Hid (wr.ownsRow w.heap.size 32 4 v out.length (out.flatMap chC)) ∧ Hid (Below w.heap.size w wr)) (fun _ i _ => n - (intOf i).toNat)
  case atStart => exact ⟨0, [], Nat.zero_le _, rfl, Nat.le_refl _, Lib.hid (RefTo.zero l), HO1, HB1⟩
  case round =>
    obtain ⟨i, out, hi, rfl, hol, href, hrow, hbw⟩ := hrel
    obtain ⟨wo, rfl⟩ : ∃ wo : World, wo = wr := ⟨_, rfl⟩
    obtain ⟨A3, c3, hr⟩ := own_shape hrow.out
    rw [hr] at hrow ⊢
    clear hr
    by_cases hil : i < n
    · obtain ⟨x, hx⟩ : ∃ x, l[i]? = some x := ⟨l[i]'(by rw [HN.out]; exact hil), List.getElem?_eq_getElem _⟩
      have HX := Lib.hid hx
      obtain ⟨b, off, rfl, hbB, hcl⟩ := HL.out.at (by rw [HN.out]; omega)
      have HCL := Lib.hid hcl
      have hbl : b < w.heap.size := by omega
      clear hx hcl
      obtain ⟨xi, xm, xt, xs⟩ := x
      have hi8 : (i : Int) < (n : Int) := by omega
      have hi9 : (0 : Int) ≤ (i : Int) := by omega
      go_wp2_with fail
      go_loopw [5, 6] (fun bs kv wk => ∃ (k : Nat) (bb : Bool), k ≤ n ∧ kv = .int .i64 k ∧ bs = .bool bb ∧ Hid (bb = true ↔ ∀ k', k' < k → ¬ badB l i k') ∧ Hid (Below wo.heap.size wo wk)) (fun _ kv _ => n - (intOf kv).toNat)
      case atStart => exact ⟨0, true, Nat.zero_le _, rfl, rfl, Lib.hid (by simp), Lib.hid (Below.refl _ _)⟩
      case round =>
        obtain ⟨k, bb, hk, rfl, rfl, hbb, hbk⟩ := hrel
        have HBk : Hid (Below w.heap.size w wr) := Lib.hid (hbw.out.trans (hbk.out.mono hbw.out.size))
        by_cases hkl : k < n
        · obtain ⟨y, hy⟩ : ∃ y, l[k]? = some y := ⟨l[k]'(by rw [HN.out]; exact hkl), List.getElem?_eq_getElem _⟩
          obtain ⟨yi, ym, yt, ys⟩ := y
          obtain ⟨e0, e1, e2, e3⟩ : ChAt wr b (off + i * 4) ⟨xi, xm, xt, xs⟩ := (HCL.out i _ HX.out).keep (fun j => HBk.out.cell (p := ⟨b, j, none⟩) hbl)
          obtain ⟨f0, f1, f2, f3⟩ : ChAt wr b (off + k * 4) ⟨yi, ym, yt, ys⟩ := (HCL.out k _ hy).keep (fun j => HBk.out.cell (p := ⟨b, j, none⟩) hbl)
          dsimp only at e0 e1 e2 e3 f0 f1 f2 f3
          have HW := Lib.hid (wayB_iff HX.out hy)
          have hk8 : (k : Int) < (n : Int) := by omega
          have hk9 : (0 : Int) ≤ (k : Int) := by omega
          have HLS := Lib.hid (less_any ⟨yi, ym, yt, ys⟩ ⟨xi, xm, xt, xs⟩ wr.drew)
          clear hy
          by_cases h1 : yi = xi
          · have b1 : (yi.toList == xi.toList) = true := (beq_list _ _).2 h1
            have HV1 : Hid (∀ q, wayB i k ⟨xi, xm, xt, xs⟩ ⟨yi, ym, yt, ys⟩ = q ↔ (decide (aheadI ⟨yi, ym, yt, ys⟩ ⟨xi, xm, xt, xs⟩ < 0) || (eqB ⟨yi, ym, yt, ys⟩ ⟨xi, xm, xt, xs⟩ && decide (k < i))) = q) := Lib.hid (fun q => by unfold wayB; simp [h1])
            clear h1
            go_wp2_with fail
            refine wp_text [20] (by kernel_rfl) (by kernel_rfl) ?_
            simp only [wpText, Nat.sub_zero, List.take_succ_cons, List.take_zero, List.drop_succ_cons, List.drop_zero, Nat.reduceAdd]
            repeat ((with_reducible refine wpStill_step (fun K hK => ?_)); go_simp; refine hK _ ?_; clear hK K)
            with_reducible refine wpStill_nil ?_
            go_wp2_with fail
            refine HLS.out.mono ?_
            rintro e w4 ⟨rfl, hb4⟩
            have HB4 : Hid (Below wo.heap.size wo w4) := Lib.hid (hbk.out.trans (⟨hb4.os, hb4.tape, hb4.output, hb4.size, fun i hi => hb4.block i (Nat.lt_of_lt_of_le hi hbk.out.size)⟩ : Below wo.heap.size wr w4))
            obtain ⟨g0, g1, g2, g3⟩ : ChAt w4 b (off + i * 4) ⟨xi, xm, xt, xs⟩ := ChAt.keep (w := wr) ⟨e0, e1, e2, e3⟩ (fun j => hb4.cell (p := ⟨b, j, none⟩) (Nat.lt_of_lt_of_le hbl (Nat.le_trans hbw.out.size hbk.out.size)))
            obtain ⟨k0, k1, k2, k3⟩ : ChAt w4 b (off + k * 4) ⟨yi, ym, yt, ys⟩ := ChAt.keep (w := wr) ⟨f0, f1, f2, f3⟩ (fun j => hb4.cell (p := ⟨b, j, none⟩) (Nat.lt_of_lt_of_le hbl (Nat.le_trans hbw.out.size hbk.out.size)))
            dsimp only at g0 g1 g2 g3 k0 k1 k2 k3
            clear HLS hb4
            cases h2 : decide (aheadI ⟨yi, ym, yt, ys⟩ ⟨xi, xm, xt, xs⟩ < 0)
            · cases h3 : eqB ⟨yi, ym, yt, ys⟩ ⟨xi, xm, xt, xs⟩
              · have HV : Hid (wayB i k ⟨xi, xm, xt, xs⟩ ⟨yi, ym, yt, ys⟩ = false) := Lib.hid ((HV1.out _).2 (by rw [h2, h3]; rfl))
                clear HV1 h2
                go_wp2_with fail
                repeat ((with_reducible refine wpStill_step (fun K hK => ?_)); go_simp; refine hK _ ?_; clear hK K)
                (try with_reducible refine wpStill_nil ?_)
                go_wp2_with fail
                go_roundw
                case rel =>
                  refine ⟨k + 1, bb, by omega, by go_num, rfl, Lib.hid ?_, HB4⟩
                  exact stay_best hbb.out (fun h => by rw [← HW.out, HV.out] at h; cases h)
                case measure => simp [intOf]; omega
              · by_cases h4 : k < i
                · have h5 : decide ((k : Int) < (i : Int)) = true := by simp; omega
                  have HV : Hid (wayB i k ⟨xi, xm, xt, xs⟩ ⟨yi, ym, yt, ys⟩ = true) := Lib.hid ((HV1.out _).2 (by rw [h2, h3]; simp [h4]))
                  clear HV1 h2
                  go_wp2_with fail
                  repeat ((with_reducible refine wpStill_step (fun K hK => ?_)); go_simp; refine hK _ ?_; clear hK K)
                  (try with_reducible refine wpStill_nil ?_)
                  go_wp2_with fail
                  go_roundw
                  case rel =>
                    refine ⟨k + 1, false, by omega, by go_num, rfl, Lib.hid ?_, HB4⟩
                    exact lose_best (by rw [← HW.out, HV.out])
                  case measure => simp [intOf]; omega
                · have h5 : decide ((k : Int) < (i : Int)) = false := by simp; omega
                  have HV : Hid (wayB i k ⟨xi, xm, xt, xs⟩ ⟨yi, ym, yt, ys⟩ = false) := Lib.hid ((HV1.out _).2 (by rw [h2, h3]; simp [h4]))
                  clear HV1 h2
                  go_wp2_with fail
                  repeat ((with_reducible refine wpStill_step (fun K hK => ?_)); go_simp; refine hK _ ?_; clear hK K)
                  (try with_reducible refine wpStill_nil ?_)
                  go_wp2_with fail
                  go_roundw
                  case rel =>
                    refine ⟨k + 1, bb, by omega, by go_num, rfl, Lib.hid ?_, HB4⟩
                    exact stay_best hbb.out (fun h => by rw [← HW.out, HV.out] at h; cases h)
                  case measure => simp [intOf]; omega
            · have HV : Hid (wayB i k ⟨xi, xm, xt, xs⟩ ⟨yi, ym, yt, ys⟩ = true) := Lib.hid ((HV1.out _).2 (by rw [h2]; rfl))
              clear HV1 h2
              go_wp2_with fail
              repeat ((with_reducible refine wpStill_step (fun K hK => ?_)); go_simp; refine hK _ ?_; clear hK K)
              (try with_reducible refine wpStill_nil ?_)
              go_wp2_with fail
              go_roundw
              case rel =>
                refine ⟨k + 1, false, by omega, by go_num, rfl, Lib.hid ?_, HB4⟩
                exact lose_best (by rw [← HW.out, HV.out])
              case measure => simp [intOf]; omega
          · have b1 : (yi.toList == xi.toList) = false := beq_false h1
            have HV : Hid (wayB i k ⟨xi, xm, xt, xs⟩ ⟨yi, ym, yt, ys⟩ = false) := Lib.hid (by unfold wayB; simp [h1])
            clear h1
            go_wp2_with fail
            go_quiet (fail)
            go_wp2_with fail
            go_roundw
            case rel =>
              refine ⟨k + 1, bb, by omega, by go_num, rfl, Lib.hid ?_, Lib.hid (below_drewN hbk.out _)⟩
              exact stay_best hbb.out (fun h => by rw [← HW.out, HV.out] at h; cases h)
            case measure => simp [intOf]; omega
        · have HRW : Hid (wr.ownsRow w.heap.size 32 4 (.slice A3 out.length c3) out.length (out.flatMap chC)) := Lib.hid (owns_kept hrow.out (below_kept (S := fun _ => False) hbk.out (Nat.le_refl _)) (fun _ _ h => h))
          obtain rfl : n = k := by omega
          have HBN : Hid (∀ k', badB l i k' → k' < n) := Lib.hid (fun k' h => by
            obtain ⟨_, y, _, hy, _⟩ := h
            have := (List.getElem?_eq_some_iff.1 hy).1
            rw [HN.out] at this
            exact this)
          have HHX : Hid (l[i]? = some ⟨xi, xm, xt, xs⟩) := HX
          cases bb
          · have HRF : Hid (RefTo l (i + 1) out) := Lib.hid (by
              have hb2 := hbb.out
              simp at hb2
              obtain ⟨k', h1, h2⟩ := hb2
              exact href.out.skip k' h2)
            go_wp2_with fail
            go_roundw
            case rel => exact ⟨i + 1, out, by omega, by go_num, by omega, HRF, HRW, HBk⟩
            case measure => simp [intOf]; omega
          · have HRF : Hid (RefTo l (i + 1) (putIn ⟨xi, xm, xt, xs⟩ out)) := Lib.hid (href.out.put HX.out (fun k' h => hbb.out.1 rfl k' (HBN.out k' h) h))
            obtain ⟨wb, rfl⟩ : ∃ wb : World, wb = wr := ⟨_, rfl⟩
            obtain ⟨wn, hwn⟩ : ∃ wn, wb.alloc (.cells #[] 32) = wn := ⟨_, rfl⟩
            have HO2 : Hid (wn.ownsRow wb.heap.size 32 4 (.slice (some ⟨wb.heap.size, 0, none⟩) 0 0) 0 []) := Lib.hid (by rw [← hwn]; exact own_empty _ _ _)
            have HB2 : Hid (Below wb.heap.size wb wn) := Lib.hid (by rw [← hwn]; exact (Below.refl _ _).alloc (Nat.le_refl _) _)
            have z2 : wo.heap.size ≤ wb.heap.size := hbk.out.size
            have z1 : w.heap.size ≤ wb.heap.size := HBk.out.size
            have hbl2 : b < wb.heap.size := by omega
            have HX1 : Hid (∀ u ∈ chC ⟨xi, xm, xt, xs⟩, u.oneCell' = true) := Lib.hid (fun u hu => chC_one [⟨xi, xm, xt, xs⟩] u (by simpa using hu))
            have HCX : Hid (ChAt wb b (off + i * 4) ⟨xi, xm, xt, xs⟩) := Lib.hid ((HCL.out i _ HX.out).keep (fun j => HBk.out.cell (p := ⟨b, j, none⟩) hbl))
            have HOA := Lib.hid (fun h => own_at HRW.out h rfl)
            clear hbb hbk HBN HCL href
            go_wp2_with fail
            clear hwn
            go_loopw [7, 8, 9] (fun nv dv kv wk => ∃ (k : Nat) (d : Bool) (nx : List Ch), k ≤ out.length ∧ kv = .int .i64 k ∧ dv = .bool d ∧ nx.length ≤ k + 1 ∧ Hid (NextIs ⟨xi, xm, xt, xs⟩ out k d nx) ∧ Hid (wk.ownsRow wb.heap.size 32 4 nv nx.length (nx.flatMap chC)) ∧ Hid (Below wb.heap.size wb wk)) (fun _ _ kv _ => out.length - (intOf kv).toNat)
            case atStart => exact ⟨0, false, [], Nat.zero_le _, rfl, rfl, by simp, Lib.hid (NextIs.zero _ _), HO2, HB2⟩
            case round =>
              obtain ⟨k, d, nx, hk, rfl, rfl, hnl, hnx, hnr, hbk⟩ := hrel
              obtain ⟨A7, c7, hr⟩ := own_shape hnr.out
              rw [hr] at hnr ⊢
              clear hr
              have z3 : wb.heap.size ≤ wr.heap.size := hbk.out.size
              have HKB : Hid (Kept (fun q => wb.heap.size ≤ q) wb wr) := Lib.hid ⟨hbk.out.os, hbk.out.tape, hbk.out.output, hbk.out.size, fun i hi _ => hbk.out.block i hi⟩
              have hne7 : ∀ j, (Value.slice A7 nx.length c7).ownBlock = some j → wb.heap.size ≤ j := fun j hj => (hnr.out.lt _ hj).1
              have HNE7 := Lib.hid hne7
              clear hne7
              obtain ⟨e0, e1, e2, e3⟩ : ChAt wr b (off + i * 4) ⟨xi, xm, xt, xs⟩ := HCX.out.keep (fun j => hbk.out.cell (p := ⟨b, j, none⟩) hbl2)
              dsimp only at e0 e1 e2 e3
              by_cases hkl : k < out.length
              · obtain ⟨z, hz⟩ : ∃ z, out[k]? = some z := ⟨out[k]'hkl, List.getElem?_eq_getElem _⟩
                obtain ⟨g, rfl, hg1, hg2, hcl⟩ := HOA.out (by omega)
                obtain ⟨zi, zm, zt, zs⟩ := z
                have hcz := hcl k _ hz
                obtain ⟨f0, f1, f2, f3⟩ : ChAt wr g (k * 4) ⟨zi, zm, zt, zs⟩ := hcz.keep (fun j => hbk.out.cell (p := ⟨g, j, none⟩) hg2)
                dsimp only at f0 f1 f2 f3
                have HCZ := Lib.hid hcz
                have HZ1 : Hid (∀ u ∈ chC ⟨zi, zm, zt, zs⟩, u.oneCell' = true) := Lib.hid (fun u hu => chC_one [⟨zi, zm, zt, zs⟩] u (by simpa using hu))
                have HZ := Lib.hid hz
                have hk8 : (k : Int) < (out.length : Int) := by omega
                have hk9 : (0 : Int) ≤ (k : Int) := by omega
                clear hcl hz hcz
                cases d
                · have HLS := Lib.hid (less_any ⟨xi, xm, xt, xs⟩ ⟨zi, zm, zt, zs⟩ wr.drew)
                  have hnl2 := hnx.out.len
                  go_wp2_with fail
                  refine wp_text [11] (by kernel_rfl) (by kernel_rfl) ?_
                  simp only [wpText, Nat.sub_zero, List.take_succ_cons, List.take_zero, List.drop_succ_cons, List.drop_zero, Nat.reduceAdd]
                  repeat ((with_reducible refine wpStill_step (fun K hK => ?_)); go_simp; refine hK _ ?_; clear hK K)
                  with_reducible refine wpStill_nil ?_
                  go_wp2_with fail
                  refine HLS.out.mono ?_
                  rintro e w4 ⟨rfl, hb4⟩
                  have HB4 : Hid (Below wb.heap.size wb w4) := Lib.hid (hbk.out.trans (⟨hb4.os, hb4.tape, hb4.output, hb4.size, fun i hi => hb4.block i (Nat.lt_of_lt_of_le hi z3)⟩ : Below wb.heap.size wr w4))
                  have z4 : wr.heap.size ≤ w4.heap.size := hb4.size
                  obtain ⟨g0, g1, g2, g3⟩ : ChAt w4 b (off + i * 4) ⟨xi, xm, xt, xs⟩ := HCX.out.keep (fun j => HB4.out.cell (p := ⟨b, j, none⟩) hbl2)
                  obtain ⟨k0, k1, k2, k3⟩ : ChAt w4 g (k * 4) ⟨zi, zm, zt, zs⟩ := HCZ.out.keep (fun j => HB4.out.cell (p := ⟨g, j, none⟩) hg2)
                  dsimp only at g0 g1 g2 g3 k0 k1 k2 k3
                  have HR4 : Hid (w4.ownsRow wb.heap.size 32 4 (.slice A7 nx.length c7) nx.length (nx.flatMap chC)) := Lib.hid (owns_kept (w := wr.drew) hnr.out (below_kept (S := fun _ => False) hb4 (Nat.le_refl _)) (fun _ _ h => h))
                  clear HLS hb4 e0 e1 e2 e3 f0 f1 f2 f3
                  cases h2 : decide (aheadI ⟨xi, xm, xt, xs⟩ ⟨zi, zm, zt, zs⟩ < 0)
                  · have HNX : Hid (NextIs ⟨xi, xm, xt, xs⟩ out (k + 1) false (nx ++ [⟨zi, zm, zt, zs⟩])) := Lib.hid (hnx.out.stay HZ.out (of_decide_eq_false h2))
                    clear h2
                    go_wp2_with fail
                    repeat ((with_reducible refine wpStill_step (fun K hK => ?_)); go_simp; refine hK _ ?_; clear hK K)
                    (try with_reducible refine wpStill_nil ?_)
                    go_wp2_with (first
                      | (at_builtin; (refine wpList_append_row _ rfl _ _ 22 rfl wb.heap.size 32 i0 _ 4 56 Tryd.underlying22 hi0 hz0 hz1 hz2 rfl (by omega) (.slice A7 nx.length c7) nx.length (nx.flatMap chC) rfl (HR4.out.alloc _) (w4.heap.size + 1) (some ⟨w4.heap.size, 0, none⟩) 1 1 (chC ⟨zi, zm, zt, zs⟩) rfl (one_row w4 ⟨zi, zm, zt, zs⟩ _) (fun h => by cases h) (HZ1.out) (by unfold maxLen; omega) (by omega) (by simp; omega) ?_); intro v5  w5  ho5  hg5  hv5)
                      | fail)
                    go_roundw
                    case rel =>
                      refine ⟨k + 1, false, nx ++ [⟨zi, zm, zt, zs⟩], by omega, by go_num, rfl, by simp; omega, HNX, Lib.hid (own_snoc ho5), Lib.hid ?_⟩
                      exact below_app HB4.out (Nat.le_refl _) hg5 HNE7.out
                    case measure => simp [intOf]; omega
                  · have HNX : Hid (NextIs ⟨xi, xm, xt, xs⟩ out (k + 1) true ((nx ++ [⟨xi, xm, xt, xs⟩]) ++ [⟨zi, zm, zt, zs⟩])) := Lib.hid (hnx.out.here HZ.out (of_decide_eq_true h2))
                    clear h2
                    go_wp2_with fail
                    repeat ((with_reducible refine wpStill_step (fun K hK => ?_)); go_simp; refine hK _ ?_; clear hK K)
                    (try with_reducible refine wpStill_nil ?_)
                    go_wp2_with (first
                      | (at_builtin; (refine wpList_append_row _ rfl _ _ 22 rfl wb.heap.size 32 i0 _ 4 56 Tryd.underlying22 hi0 hz0 hz1 hz2 rfl (by omega) (.slice A7 nx.length c7) nx.length (nx.flatMap chC) rfl (HR4.out.alloc _) (w4.heap.size + 1) (some ⟨w4.heap.size, 0, none⟩) 1 1 (chC ⟨xi, xm, xt, xs⟩) rfl (one_row w4 ⟨xi, xm, xt, xs⟩ _) (fun h => by cases h) (HX1.out) (by unfold maxLen; omega) (by omega) (by simp; omega) ?_); intro v5  w5  ho5  hg5  hv5; clear HR4; obtain ⟨A8, c8, hr8⟩ := own_shape ho5; subst hr8; have HB5 : Hid (Below wb.heap.size wb w5) := Lib.hid (below_app HB4.out (Nat.le_refl _) hg5 HNE7.out); have HR5 := Lib.hid ho5; have HNE8 : Hid (∀ j, (Value.slice A8 (nx.length + 1) c8).ownBlock = some j → wb.heap.size ≤ j) := Lib.hid (fun j hj => (ho5.lt _ hj).1); have z5 : w4.heap.size ≤ w5.heap.size := (Nat.le_trans (by simp) hg5.size); obtain ⟨f0, f1, f2, f3⟩ : ChAt w5 g (k * 4) ⟨zi, zm, zt, zs⟩ := HCZ.out.keep (fun j => HB5.out.cell (p := ⟨g, j, none⟩) hg2); dsimp only at f0 f1 f2 f3; clear ho5 hg5 hv5)
                      | (at_builtin; go_loud (refine wpList_append_row _ rfl _ _ 22 rfl wb.heap.size 32 i0 _ 4 56 Tryd.underlying22 hi0 hz0 hz1 hz2 rfl (by omega) (.slice A8 (nx.length + 1) c8) (nx.length + 1) (nx.flatMap chC ++ chC ⟨xi, xm, xt, xs⟩) rfl (HR5.out.alloc _) (w5.heap.size + 1) (some ⟨w5.heap.size, 0, none⟩) 1 1 (chC ⟨zi, zm, zt, zs⟩) rfl (one_row w5 ⟨zi, zm, zt, zs⟩ _) (fun h => by cases h) (HZ1.out) (by unfold maxLen; omega) (by omega) (by simp; omega) ?_); intro v6 w6 ho6 hg6 hv6)
                      | fail)
                    go_roundw
                    case rel =>
                      refine ⟨k + 1, true, (nx ++ [⟨xi, xm, xt, xs⟩]) ++ [⟨zi, zm, zt, zs⟩], by omega, by go_num, rfl, by simp; omega, HNX, Lib.hid (own_snoc2 ho6), Lib.hid ?_⟩
                      exact below_app HB5.out (Nat.le_refl _) hg6 HNE8.out
                    case measure => simp [intOf]; omega
                · have HNX : Hid (NextIs ⟨xi, xm, xt, xs⟩ out (k + 1) true (nx ++ [⟨zi, zm, zt, zs⟩])) := Lib.hid (hnx.out.more HZ.out)
                  have HR4 : Hid (∀ q, (wr.drewN q).ownsRow wb.heap.size 32 4 (.slice A7 nx.length c7) nx.length (nx.flatMap chC)) := Lib.hid (fun q => hnr.out)
                  go_wp2_with fail
                  go_quiet (fail)
                  go_wp2_with (first
                    | (at_builtin; go_loud (refine wpList_append_row _ rfl _ _ 22 rfl wb.heap.size 32 i0 _ 4 56 Tryd.underlying22 hi0 hz0 hz1 hz2 rfl (by omega) (.slice A7 nx.length c7) nx.length (nx.flatMap chC) rfl ((HR4.out _).alloc _) (wr.heap.size + 1) (some ⟨wr.heap.size, 0, none⟩) 1 1 (chC ⟨zi, zm, zt, zs⟩) rfl (one_row _ ⟨zi, zm, zt, zs⟩ _) (fun h => by cases h) (HZ1.out) (by unfold maxLen; omega) (by omega) (by simp; omega) ?_); intro v5 w5 ho5 hg5 hv5)
                    | fail)
                  go_roundw
                  case rel =>
                    refine ⟨k + 1, true, nx ++ [⟨zi, zm, zt, zs⟩], by omega, by go_num, rfl, by simp; omega, HNX, Lib.hid (own_snoc ho5), Lib.hid ?_⟩
                    exact below_app (below_drewN hbk.out _) (Nat.le_refl _) hg5 HNE7.out
                  case measure => simp [intOf]; omega
              · obtain rfl : k = out.length := by omega
                cases d
                · have HNX : Hid (nx ++ [⟨xi, xm, xt, xs⟩] = putIn ⟨xi, xm, xt, xs⟩ out) := Lib.hid hnx.out.none
                  have HPL := Lib.hid (putIn_len ⟨xi, xm, xt, xs⟩ out)
                  go_wp2_with (first
                    | (at_builtin; (refine wpList_append_row _ rfl _ _ 22 rfl wb.heap.size 32 i0 _ 4 56 Tryd.underlying22 hi0 hz0 hz1 hz2 rfl (by omega) (.slice A7 nx.length c7) nx.length (nx.flatMap chC) rfl (hnr.out.alloc _) (wr.heap.size + 1) (some ⟨wr.heap.size, 0, none⟩) 1 1 (chC ⟨xi, xm, xt, xs⟩) rfl (one_row wr ⟨xi, xm, xt, xs⟩ _) (fun h => by cases h) (HX1.out) (by unfold maxLen; omega) (by omega) (by simp; omega) ?_); intro v5  w5  ho5  hg5  hv5)
                    | fail)
                  go_roundw
                  case rel =>
                    have hs := own_snoc ho5
                    rw [HNX.out] at hs
                    refine ⟨i + 1, putIn ⟨xi, xm, xt, xs⟩ out, by omega, by go_num, by rw [HPL.out]; omega, HRF, Lib.hid (hs.mono z1), Lib.hid ?_⟩
                    exact HBk.out.trans ((below_app hbk.out (Nat.le_refl _) hg5 HNE7.out).mono z1)
                  case measure => simp [intOf]; omega
                · have HNX : Hid (nx = putIn ⟨xi, xm, xt, xs⟩ out) := Lib.hid hnx.out.all
                  have HPL := Lib.hid (putIn_len ⟨xi, xm, xt, xs⟩ out)
                  go_wp2_with fail
                  go_roundw
                  case rel =>
                    have hs := hnr.out
                    rw [HNX.out] at hs
                    exact ⟨i + 1, putIn ⟨xi, xm, xt, xs⟩ out, by omega, by go_num, by rw [HPL.out]; omega, HRF, Lib.hid (by rw [← HNX.out]; exact hnr.out.mono z1), Lib.hid (HBk.out.trans (hbk.out.mono z1))⟩
                  case measure => simp [intOf]; omega
    · obtain rfl : n = i := by omega
      have HRR : Hid (out = rankP l) := Lib.hid (RefTo.rank (by rw [HN.out]; exact href.out))
      go_wp2_with fail
      go_ret
      refine ⟨_, rfl, ?_, hbw.out⟩
      rw [← HRR.out]
      exact hrow.out

end Go.Proofs.YtiaklkfdgnhonaaDoor
