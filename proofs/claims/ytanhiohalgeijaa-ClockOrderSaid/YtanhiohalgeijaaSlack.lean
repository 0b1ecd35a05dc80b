/- ClockSlack: what isn't late by a slack isn't by a greater one, whatever was heard: the mark is never above. -/
import Derived.Test.YtanhiohalgeijaaRises
import Derived.Test.YtanhiohalgeijaaText
namespace Go.Proofs.Ytanhiohalgeijaa
open Go.RowKit Go.Maps Go.Lib Go.Shelf
set_option linter.unusedVariables false

/-- d is as c, but for a greater slack and a mark that isn't above. -/
structure Sim (more : Int) (c d : Ck) : Prop where
  slack : d.slack = c.slack + more
  idle : d.idle = c.idle
  now : d.now = c.now
  src : d.src = c.src
  mark : d.mark ≤ c.mark

theorem Sim.told {more : Int} {c d : Ck} (h : Sim more c d) {m : Int} {any : Bool} (ht : Told c m any) : Told d (if any then m - more else 0) any := by
  have ha : ∀ x, act d x = act c x := fun x => by unfold act; rw [h.idle, h.now]
  rcases ht with ⟨rfl, rfl, h3⟩ | ⟨rfl, ⟨s, x, hs, hx, rfl⟩, h3⟩
  · exact Or.inl ⟨rfl, rfl, fun s x hs _ => by rw [ha]; exact h3 s x (by rw [← h.src]; exact hs) trivial⟩
  · refine Or.inr ⟨rfl, ⟨s, x, by rw [h.src]; exact hs, by rw [ha]; exact hx, by rw [h.slack]; simp; omega⟩, fun s' x' hs' _ hx' => ?_⟩
    have := h3 s' x' (by rw [← h.src]; exact hs') trivial (by rw [← ha]; exact hx')
    rw [h.slack]; simp; omega

theorem Sim.rose {more : Int} {c d c' d' : Ck} (h0 : 0 ≤ more) (h : Sim more c d) (hc : Rose c c') (hd : Rose d d') : Sim more c' d' := by
  obtain ⟨m, any, ht, rfl⟩ := hc
  obtain ⟨m', any', ht', rfl⟩ := hd
  obtain ⟨rfl, rfl⟩ := (h.told ht).unique ht'
  refine ⟨h.slack, h.idle, h.now, h.src, ?_⟩
  have := h.mark
  cases any <;> simp <;> omega

theorem Sim.ticked {more now : Int} {c d c' d' : Ck} (h0 : 0 ≤ more) (h : Sim more c d) (hc : Ticked c now c') (hd : Ticked d now d') : Sim more c' d' :=
  Sim.rose (c := { c with now := max c.now (bnd now) }) (d := { d with now := max d.now (bnd now) }) h0 ⟨h.slack, h.idle, by show max d.now _ = max c.now _; rw [h.now], h.src, h.mark⟩ hc hd

theorem Sim.both {more at_ now : Int} {c d c' d' : Ck} {s : ByteArray} {r : Bool} (h0 : 0 ≤ more) (h : Sim more c d) (hc : Hears c s at_ now true c') (hd : Hears d s at_ now r d') : r = true ∧ Sim more c' d' := by
  obtain ⟨c1, t1, hc⟩ := hc
  obtain ⟨d1, t2, hd⟩ := hd
  have s1 := h.ticked h0 t1 t2
  rcases hc with ⟨hf, _, _⟩ | ⟨_, hf, hr⟩
  · cases hf
  · have hf2 : Fits d1 s at_ := ⟨hf.1, hf.2.1, hf.2.2.1, by have := hf.2.2.2; have := s1.mark; omega⟩
    rcases hd with ⟨_, _, hn⟩ | ⟨rfl, _, hr2⟩
    · exact absurd hf2 hn
    · refine ⟨rfl, Sim.rose (c := Heard' c1 s at_) (d := Heard' d1 s at_) h0 ⟨s1.slack, s1.idle, s1.now, ?_, s1.mark⟩ hr hr2⟩
      show put d1.src _ _ = put c1.src _ _
      rw [s1.src, s1.now]

theorem Sim.alone {more at_ now : Int} {c d c' : Ck} {s : ByteArray} (h : Sim more c d) (hc : Hears c s at_ now false c') : d.now = c'.now → Sim more c' d := by
  intro he
  obtain ⟨c1, t1, hc⟩ := hc
  rcases hc with ⟨_, rfl, _⟩ | ⟨hf, _, _⟩
  · have hs := t1.same
    exact ⟨by rw [hs.1]; exact h.slack, by rw [hs.2.1]; exact h.idle, he, by rw [hs.2.2.2.1]; exact h.src, by have := hs.2.2.2.2; have := h.mark; omega⟩
  · cases hf

theorem Sim.after {more at_ now : Int} {c d c' d' : Ck} {s : ByteArray} (h0 : 0 ≤ more) (h : Sim more c d) (hok : c'.Ok) (hc : Hears c s at_ now false c') (hd : Ticked d c'.now d') : Sim more c' d' := by
  obtain ⟨c1, t1, hc⟩ := hc
  rcases hc with ⟨_, rfl, _⟩ | ⟨hf, _, _⟩
  · have hs := t1.same
    have e1 : max d.now (bnd c'.now) = max c.now (bnd now) := by
      have h1 := hok.n0
      have h2 := hok.n1
      have h3 := hs.2.2.1
      have h4 := h.now
      rw [show bnd c'.now = c'.now from by unfold bnd; omega]
      omega
    refine Sim.rose (c := { c with now := max c.now (bnd now) }) (d := { d with now := max d.now (bnd c'.now) }) h0 ⟨h.slack, h.idle, e1, h.src, h.mark⟩ t1 hd
  · cases hf

theorem Sim.fresh {slack more idle : Int} (h0 : 0 ≤ slack) (h1 : slack ≤ 1073741824) (h2 : 0 ≤ more) (h3 : more ≤ 1073741824) : Sim more (fresh slack idle) (fresh (slack + more) idle) := by
  refine ⟨?_, rfl, rfl, rfl, Int.le_refl _⟩
  show bnd (slack + more) = bnd slack + more
  unfold bnd; omega

/-- The calls that came in read as ever. -/
theorem ActsAt.same {w w2 wr : World} {a : Option Addr} {l : List ActD} (h : ActsAt w2 w.heap.size a l) (h2 : Below w.heap.size w w2) (hr : Below w.heap.size w wr) : ActsAt wr w.heap.size a l := by
  intro i y hy
  obtain ⟨b, off, e1, e2, d0, d1, d2, d3⟩ := h i y hy
  have tr : ∀ o, wr.cell? ⟨b, o, none⟩ = w2.cell? ⟨b, o, none⟩ := fun o => (hr.cell (p := ⟨b, o, none⟩) e2).trans (h2.cell (p := ⟨b, o, none⟩) e2).symm
  exact ⟨b, off, e1, e2, (tr _).trans d0, (tr _).trans d1, (tr _).trans d2, (tr _).trans d3⟩

set_option maxHeartbeats 2000000 in
set_option maxRecDepth 100000 in
theorem slack_any (slack more idle : Int) (a : Option Addr) (len cap : Nat) (l : List ActD) (w : World) (hl : l.length = len) (ha : ActsAt w w.heap.size a l) (hm : len ≤ 9223372036854775807) :
    Calls Try.prog 4 #[.int .i64 slack, .int .i64 more, .int .i64 idle, .slice a len cap] w fun e w' => e = .returned (.bool true) ∧ Below w.heap.size w w' := by
  go_enter Try.func4, Try.ntmps4
  go_wp2_with fail
  refine (awake_any w).mono ?_
  rintro e w1 ⟨rfl, hb1⟩
  have ha1 := ha.below hb1
  clear ha
  go_wp2_with fail
  refine (few_any a len cap w.heap.size l w1 hl ha1 hm).mono ?_
  rintro e w1' ⟨r, rfl, hr, rfl⟩
  cases r
  · clear hr
    go_wp2_with fail
    go_ret
    exact ⟨rfl, hb1⟩
  · have hlen := hr rfl
    clear hr
    by_cases g0 : slack < 0
    · go_wp2_with fail
      go_ret
      exact ⟨rfl, hb1⟩
    by_cases g1 : 1073741824 < slack
    · go_wp2_with fail
      go_ret
      exact ⟨rfl, hb1⟩
    by_cases g2 : more < 0
    · go_wp2_with fail
      go_ret
      exact ⟨rfl, hb1⟩
    by_cases g3 : 1073741824 < more
    · go_wp2_with fail
      go_ret
      exact ⟨rfl, hb1⟩
    go_wp2_with fail
    refine (new_any slack idle w1).mono ?_
    rintro e w2 ⟨cb, mb, rfl, hc0, hb2, hcb, hmb⟩
    go_wp2_with fail
    refine (new_any (slack + more) idle w2).mono ?_
    rintro e w3 ⟨db, nb, rfl, hd0, hb3, hdb, hnb⟩
    have hs0 : Sim more (fresh slack idle) (fresh (slack + more) idle) := Sim.fresh (by omega) (by omega) (by omega) (by omega)
    have hsz2 := hb2.size
    have hcl := hc0.blk.lt
    have hml := hc0.map.lt
    have hc1 : ClockAt w3 cb mb 0 (fresh slack idle) := hc0.kept (S := fun _ => False) ⟨hb3.os, hb3.tape, hb3.output, hb3.size, fun i hi _ => hb3.block i hi⟩ (by simp) (by simp)
    have hB2 : Below w.heap.size w w3 := (hb1.trans (hb2.mono hb1.size)).trans (hb3.mono (Nat.le_trans hb1.size hsz2))
    have hw1 := hb1.size
    have ha2 : ActsAt w3 w.heap.size a l := ha1.same hb1 hB2
    have p1 : w.heap.size ≤ cb := by omega
    have p2 : w.heap.size ≤ mb := by omega
    have p3 : w.heap.size ≤ db := by omega
    have p4 : w.heap.size ≤ nb := by omega
    have p5 : cb < db := by omega
    have p6 : cb < nb := by omega
    have p7 : mb < db := by omega
    have p8 : mb < nb := by omega
    clear ha1 hb1 hb2 hb3 hcb hmb hdb hnb hc0 hsz2 hcl hml hw1
    generalize fresh slack idle = c00 at hc1 hs0
    generalize fresh (slack + more) idle = d00 at hd0 hs0
    go_wp2_with fail
    go_loopw [11] (fun i wr => ∃ (k : Nat) (c d : Ck), k ≤ len ∧ i = .int .i64 k ∧ ClockAt wr cb mb k c ∧ ClockAt wr db nb k d ∧ Sim more c d ∧ Below w.heap.size w wr) (fun i _ => len - (intOf i).toNat)
    case atStart => exact ⟨0, _, _, Nat.zero_le _, rfl, hc1, hd0, hs0, hB2⟩
    case round =>
      obtain ⟨k, c, d, hk, rfl, hc, hd, hsim, hB⟩ := hrel
      by_cases hlt : k < len
      · obtain ⟨x, hx⟩ : ∃ x, l[k]? = some x := ⟨l[k]'(by omega), List.getElem?_eq_getElem (by omega)⟩
        obtain ⟨b, off, rfl, hbB, e0, e1, e2, e3⟩ := (ha2.same hB2 hB) k x hx
        clear hx ha2 hl hc1 hd0 hs0 hB2
        have hbw : b < wr.heap.size := Nat.lt_of_lt_of_le hbB hB.size
        have hk8 : (k : Int) < (len : Int) := by omega
        have hk9 : (0 : Int) ≤ (k : Int) := by omega
        by_cases hkd : x.kind = 0
        · have hkb : (x.kind == 0) = true := by simpa using hkd
          clear hkd
          go_wp2_with fail
          refine (tick_any cb mb k c x.now wr hc).mono ?_
          rintro e w4 ⟨c', rfl, ht, h4, hk4⟩
          have hd4 := hd.kept hk4 (by omega) (by omega)
          have q3 : w4.cell? ⟨b, off + k * 4 + 3, none⟩ = some (.int .i64 x.now) := (hk4.cell (p := ⟨b, off + k * 4 + 3, none⟩) hbw (by simp; omega)).trans e3
          have HT := Lib.hid ht
          clear ht
          go_wp2_with fail
          refine (tick_any db nb k d x.now w4 hd4).mono ?_
          rintro e w5 ⟨d', rfl, ht', h5, hk5⟩
          have hc5 := h4.kept hk5 (by omega) (by omega)
          have hsim5 := hsim.ticked (by omega) HT.out ht'
          have hB5 : Below w.heap.size w w5 := (hB.trans (hk4.toBelow (fun i hi => by omega) hB.size)).trans (hk5.toBelow (fun i hi => by omega) (by have := hk4.size; have := hB.size; omega))
          clear ht' HT hk4 hk5 hd4 h4 hsim hB hc hd
          have hnow : (c'.now != d'.now) = false := by rw [hsim5.now]; simp
          have hmk : ¬ c'.mark < d'.mark := by have := hsim5.mark; omega
          have b1 := hc5.blk
          have b2 := h5.blk
          go_wp2_with fail
          refine (now_any cb mb c' w5 b1).mono ?_
          rintro e w9 ⟨rfl, rfl⟩
          go_wp2_with fail
          refine (now_any db nb d' w5 b2).mono ?_
          rintro e w9 ⟨rfl, rfl⟩
          go_wp2_with fail
          refine (mark_any db nb d' w5 b2).mono ?_
          rintro e w9 ⟨rfl, rfl⟩
          go_wp2_with fail
          refine (mark_any cb mb c' w5 b1).mono ?_
          rintro e w9 ⟨rfl, rfl⟩
          go_wp2_with fail
          go_roundw
          case rel => exact ⟨k + 1, c', d', by omega, by go_num, ⟨hc5.blk, hc5.map.mono (by omega), hc5.ok⟩, ⟨h5.blk, h5.map.mono (by omega), h5.ok⟩, hsim5, hB5⟩
          case measure => simp [intOf]; omega
        · have hkb : (x.kind == 0) = false := by simpa using hkd
          clear hkd
          go_wp2_with fail
          refine wp_text [16, 34] (by kernel_rfl) (by kernel_rfl) ?_
          simp only [wpText, Nat.sub_zero, List.take_succ_cons, List.take_zero, List.drop_succ_cons, List.drop_zero, Nat.reduceSub, Nat.reduceAdd]
          repeat ((with_reducible refine wpStill_step (fun K hK => ?_)); go_simp; refine hK _ ?_; clear hK K)
          with_reducible refine wpStill_nil ?_
          go_wp2_with fail
          have hc' : ClockAt wr.drew cb mb k c := ⟨hc.blk.drew, hc.map.drew, hc.ok⟩
          refine (hear_any cb mb k c x.name x.at_ x.now wr.drew hc' (by omega)).mono ?_
          rintro e w4 ⟨res, c', rfl, ht, h4, hk4⟩
          have hd4 := hd.kept (w' := w4) (S := fun i => i = cb ∨ i = mb) (by exact ⟨hk4.os, hk4.tape, hk4.output, hk4.size, hk4.block⟩) (by omega) (by omega)
          have hB4 : Below w.heap.size w w4 := hB.drew.trans (hk4.toBelow (fun i hi => by omega) hB.size)
          have HT := Lib.hid ht
          clear ht hc'
          cases res
          · have b1 := h4.blk
            have b2 := hd4.blk
            go_wp2_with fail
            repeat ((with_reducible refine wpStill_step (fun K hK => ?_)); go_simp; refine hK _ ?_; clear hK K)
            with_reducible refine wpStill_nil ?_
            go_wp2_with fail
            repeat ((with_reducible refine wpStill_step (fun K hK => ?_)); go_simp; refine hK _ ?_; clear hK K)
            with_reducible refine wpStill_nil ?_
            by_cases hnow : d.now = c'.now
            · have hsim5 : Sim more c' d := hsim.alone HT.out hnow
              have hne : (c'.now != d.now) = false := by rw [hnow]; simp
              have hmk : ¬ c'.mark < d.mark := by have := hsim5.mark; omega
              have HN := Lib.hid hnow
              clear hnow hsim HT hk4 hB hc hd
              go_wp2_with fail
              refine (now_any cb mb c' w4 b1).mono ?_
              rintro e w9 ⟨rfl, rfl⟩
              go_wp2_with fail
              refine (now_any db nb d w4 b2).mono ?_
              rintro e w9 ⟨rfl, rfl⟩
              go_wp2_with fail
              refine (mark_any db nb d w4 b2).mono ?_
              rintro e w9 ⟨rfl, rfl⟩
              go_wp2_with fail
              refine (mark_any cb mb c' w4 b1).mono ?_
              rintro e w9 ⟨rfl, rfl⟩
              go_wp2_with fail
              go_roundw
              case rel => exact ⟨k + 1, c', d, by omega, by go_num, h4, ⟨hd4.blk, hd4.map.mono (by omega), hd4.ok⟩, hsim5, hB4⟩
              case measure => simp [intOf]; omega
            · have hne : (c'.now != d.now) = true := by rw [bne_iff_ne]; exact fun h => hnow h.symm
              clear hnow
              go_wp2_with fail
              refine (now_any cb mb c' w4 b1).mono ?_
              rintro e w9 ⟨rfl, rfl⟩
              go_wp2_with fail
              refine (now_any db nb d w4 b2).mono ?_
              rintro e w9 ⟨rfl, rfl⟩
              go_wp2_with fail
              refine (now_any cb mb c' w4 b1).mono ?_
              rintro e w9 ⟨rfl, rfl⟩
              go_wp2_with fail
              refine (tick_any db nb k d c'.now w4 hd4).mono ?_
              rintro e w5 ⟨d', rfl, ht', h5, hk5⟩
              have hc5 := h4.kept hk5 (by omega) (by omega)
              have hsim5 : Sim more c' d' := hsim.after (by omega) h4.ok HT.out ht'
              have hB5 : Below w.heap.size w w5 := hB4.trans (hk5.toBelow (fun i hi => by omega) hB4.size)
              have hmk : ¬ c'.mark < d'.mark := by have := hsim5.mark; omega
              clear ht' hk5 hd4 h4 hsim HT hk4 hB hc hd hB4 b1 b2 hne
              have b1 := hc5.blk
              have b2 := h5.blk
              go_wp2_with fail
              refine (mark_any db nb d' w5 b2).mono ?_
              rintro e w9 ⟨rfl, rfl⟩
              go_wp2_with fail
              refine (mark_any cb mb c' w5 b1).mono ?_
              rintro e w9 ⟨rfl, rfl⟩
              go_wp2_with fail
              go_roundw
              case rel => exact ⟨k + 1, c', d', by omega, by go_num, hc5, ⟨h5.blk, h5.map.mono (by omega), h5.ok⟩, hsim5, hB5⟩
              case measure => simp [intOf]; omega
          · have q1 : w4.cell? ⟨b, off + k * 4 + 1, none⟩ = some (.string x.name) := (hk4.cell (p := ⟨b, off + k * 4 + 1, none⟩) hbw (by simp; omega)).trans e1
            have q2 : w4.cell? ⟨b, off + k * 4 + 2, none⟩ = some (.int .i64 x.at_) := (hk4.cell (p := ⟨b, off + k * 4 + 2, none⟩) hbw (by simp; omega)).trans e2
            have q3 : w4.cell? ⟨b, off + k * 4 + 3, none⟩ = some (.int .i64 x.now) := (hk4.cell (p := ⟨b, off + k * 4 + 3, none⟩) hbw (by simp; omega)).trans e3
            clear hk4 hc hd hB
            go_wp2_with fail
            repeat ((with_reducible refine wpStill_step (fun K hK => ?_)); go_simp; refine hK _ ?_; clear hK K)
            with_reducible refine wpStill_nil ?_
            go_wp2_with fail
            refine (hear_any db nb k d x.name x.at_ x.now w4 hd4 (by omega)).mono ?_
            rintro e w5 ⟨r2, d', rfl, ht', h5, hk5⟩
            have hc5 := h4.kept hk5 (by omega) (by omega)
            obtain ⟨rfl, hsim5⟩ := hsim.both (by omega) HT.out ht'
            have hB5 : Below w.heap.size w w5 := hB4.trans (hk5.toBelow (fun i hi => by omega) hB4.size)
            clear ht' hk5 hd4 h4 hsim HT hB4
            have hmk : ¬ c'.mark < d'.mark := by have := hsim5.mark; omega
            have hne : (c'.now != d'.now) = false := by rw [hsim5.now]; simp
            have b1 := hc5.blk
            have b2 := h5.blk
            go_wp2_with fail
            repeat ((with_reducible refine wpStill_step (fun K hK => ?_)); go_simp; refine hK _ ?_; clear hK K)
            with_reducible refine wpStill_nil ?_
            go_wp2_with fail
            refine (now_any cb mb c' w5 b1).mono ?_
            rintro e w9 ⟨rfl, rfl⟩
            go_wp2_with fail
            refine (now_any db nb d' w5 b2).mono ?_
            rintro e w9 ⟨rfl, rfl⟩
            go_wp2_with fail
            refine (mark_any db nb d' w5 b2).mono ?_
            rintro e w9 ⟨rfl, rfl⟩
            go_wp2_with fail
            refine (mark_any cb mb c' w5 b1).mono ?_
            rintro e w9 ⟨rfl, rfl⟩
            go_wp2_with fail
            go_roundw
            case rel => exact ⟨k + 1, c', d', by omega, by go_num, hc5, h5, hsim5, hB5⟩
            case measure => simp [intOf]; omega
      · go_wp2_with fail
        go_ret
        exact ⟨rfl, hB⟩

end Go.Proofs.Ytanhiohalgeijaa
