/- ClockOrder: where nothing is idle, and none of it is late, the order in which things are heard plays no part for the sources, nor for what they tell of. -/
import Derived.Test.YtanhiohalgeijaaKeys
import Derived.Test.YtanhiohalgeijaaText
import Derived.Deep.RegionLaw
import Derived.Deep.RegionHeld3
namespace Go.Proofs.Ytanhiohalgeijaa
open Go.RowKit Go.Maps Go.Lib Go.Shelf Go.Sort
set_option linter.unusedVariables false

theorem act_info : (Try.prog.info? 29).map (fun i => (i.zero, i.size, i.bytes)) = some (some (.agg #[.int .i64 0, .string ⟨#[]⟩, .int .i64 0, .int .i64 0]), 4, 40) := by kernel_rfl

theorem own_empty (w : World) (e : TypeId) (size : Nat) : (w.alloc (.cells #[] e)).drew.ownsRow w.heap.size e size (.slice (some ⟨w.heap.size, 0, none⟩) 0 0) 0 [] :=
  ⟨by simp, Or.inr ⟨w.heap.size, 0, #[], rfl, Nat.le_refl _, heap_alloc_new w _, Nat.le_refl _, Nat.zero_le _, by simp, by simp⟩⟩

/-- A row of the call's own, read later: its block is none of S. -/
theorem acts_own {w wr : World} {base n c : Nat} {e : TypeId} {A : Option Addr} {l : List ActD} {S : Nat → Prop} (h : w.ownsRow base e 4 (.slice A n c) n (l.flatMap actC)) (hn : n = l.length) (k : Kept S w wr) (hS : ∀ i, base ≤ i → ¬ S i) : ActsAt wr w.heap.size A l := by
  intro i x hx
  have hi := (List.getElem?_eq_some_iff.1 hx).1
  have hacts := acts_of_row (RowIn.of_own h) hn
  obtain ⟨b, off, e1, hb, d0, d1, d2, d3⟩ := hacts i x hx
  obtain ⟨g, cap, hv, hg, _⟩ := h.form (by omega)
  rw [e1] at hv
  have hbg : b = g := by injection hv with hv; injection hv with hv; injection hv
  have tr : ∀ o, wr.cell? ⟨b, o, none⟩ = w.cell? ⟨b, o, none⟩ := fun o => k.cell (p := ⟨b, o, none⟩) hb (hS b (by omega))
  exact ⟨b, off, e1, hb, (tr _).trans d0, (tr _).trans d1, (tr _).trans d2, (tr _).trans d3⟩

theorem own_shape {w : World} {base n : Nat} {e : TypeId} {size : Nat} {v : Value} {xs : List Value} (h : w.ownsRow base e size v n xs) : ∃ A c, v = .slice A n c := by
  rcases h.2 with ⟨rfl, rfl⟩ | ⟨g, cap, cur, rfl, _⟩
  · exact ⟨_, _, rfl⟩
  · exact ⟨_, _, rfl⟩

/-- What the third loop's round reads, and its two clocks. -/
def SBoth (cb mb db nb n : Nat) (c d : Ck) (g8 o8 g9 o9 : Nat) (s : List UInt8) (w9 W : World) : Prop :=
  W.cell? ⟨g8, o8, none⟩ = some (.string ⟨s.toArray⟩) ∧ W.cell? ⟨g9, o9, none⟩ = some (.string ⟨s.toArray⟩) ∧ ClockAt W cb mb n c ∧ ClockAt W db nb n d ∧ Below w9.heap.size w9 W

section
variable {cb mb db nb n g8 o8 g9 o9 : Nat} {c d : Ck} {s : List UInt8} {w9 W : World}
theorem SBoth.below (h : SBoth cb mb db nb n c d g8 o8 g9 o9 s w9 W) {w' : World} (hb : Below W.heap.size W w') : SBoth cb mb db nb n c d g8 o8 g9 o9 s w9 w' := by
  obtain ⟨h1, h2, h3, h4, h5⟩ := h
  have hk : Kept (fun _ => False) W w' := ⟨hb.os, hb.tape, hb.output, hb.size, fun i hi _ => hb.block i hi⟩
  have l1 : g8 < W.heap.size := by
    rcases Nat.lt_or_ge g8 W.heap.size with h | h
    · exact h
    · unfold World.cell? at h1; rw [Array.getElem?_eq_none h] at h1; simp at h1
  have l2 : g9 < W.heap.size := by
    rcases Nat.lt_or_ge g9 W.heap.size with h | h
    · exact h
    · unfold World.cell? at h2; rw [Array.getElem?_eq_none h] at h2; simp at h2
  exact ⟨(hb.cell (p := ⟨g8, o8, none⟩) l1).trans h1, (hb.cell (p := ⟨g9, o9, none⟩) l2).trans h2, h3.kept hk (by simp) (by simp), h4.kept hk (by simp) (by simp), h5.trans (hb.mono h5.size)⟩
theorem SBoth.of (h1 : W.cell? ⟨g8, o8, none⟩ = some (.string ⟨s.toArray⟩)) (h2 : W.cell? ⟨g9, o9, none⟩ = some (.string ⟨s.toArray⟩)) (h3 : ClockAt W cb mb n c) (h4 : ClockAt W db nb n d) (h5 : Below w9.heap.size w9 W) : SBoth cb mb db nb n c d g8 o8 g9 o9 s w9 W := ⟨h1, h2, h3, h4, h5⟩
theorem SBoth.drew (h : SBoth cb mb db nb n c d g8 o8 g9 o9 s w9 W) : SBoth cb mb db nb n c d g8 o8 g9 o9 s w9 W.drew := h.below ((Below.refl _ _).drew)
theorem both_heard_c (hs : s.length ≤ maxLen) (m : Int) (hm : heardOf c s = m) (h : SBoth cb mb db nb n c d g8 o8 g9 o9 s w9 W) :
    Calls Try.prog 14 #[.pointer (some ⟨cb, 0, none⟩), .string ⟨s.toArray⟩] W fun e w' => e = .returned (.int .i64 m) ∧ SBoth cb mb db nb n c d g8 o8 g9 o9 s w9 w' :=
  (heard_any cb mb n c ⟨s.toArray⟩ W h.2.2.1 (by simpa [ByteArray.size] using hs)).mono fun e w' ⟨he, hb⟩ => ⟨by rw [he]; simp [hm], h.below hb⟩
theorem both_heard_d (hs : s.length ≤ maxLen) (m : Int) (hm : heardOf d s = m) (h : SBoth cb mb db nb n c d g8 o8 g9 o9 s w9 W) :
    Calls Try.prog 14 #[.pointer (some ⟨db, 0, none⟩), .string ⟨s.toArray⟩] W fun e w' => e = .returned (.int .i64 m) ∧ SBoth cb mb db nb n c d g8 o8 g9 o9 s w9 w' :=
  (heard_any db nb n d ⟨s.toArray⟩ W h.2.2.2.1 (by simpa [ByteArray.size] using hs)).mono fun e w' ⟨he, hb⟩ => ⟨by rw [he]; simp [hm], h.below hb⟩
theorem both_active_c (hs : s.length ≤ maxLen) (hm : activeOf c s = true) (h : SBoth cb mb db nb n c d g8 o8 g9 o9 s w9 W) :
    Calls Try.prog 15 #[.pointer (some ⟨cb, 0, none⟩), .string ⟨s.toArray⟩] W fun e w' => e = .returned (.bool true) ∧ SBoth cb mb db nb n c d g8 o8 g9 o9 s w9 w' :=
  (active_says cb mb n c ⟨s.toArray⟩ W h.2.2.1 (by simpa [ByteArray.size] using hs)).mono fun e w' ⟨he, hb⟩ => ⟨by rw [he]; simp [hm], h.below hb⟩
theorem both_active_d (hs : s.length ≤ maxLen) (hm : activeOf d s = true) (h : SBoth cb mb db nb n c d g8 o8 g9 o9 s w9 W) :
    Calls Try.prog 15 #[.pointer (some ⟨db, 0, none⟩), .string ⟨s.toArray⟩] W fun e w' => e = .returned (.bool true) ∧ SBoth cb mb db nb n c d g8 o8 g9 o9 s w9 w' :=
  (active_says db nb n d ⟨s.toArray⟩ W h.2.2.2.1 (by simpa [ByteArray.size] using hs)).mono fun e w' ⟨he, hb⟩ => ⟨by rw [he]; simp [hm], h.below hb⟩
end

theorem active_of_some {c : Ck} {s : List UInt8} (h : c.idle = 0) (hs : (c.src s).isSome = true) : activeOf c s = true := by
  unfold activeOf
  cases hc : c.src s with
  | none => rw [hc] at hs; cases hs
  | some x => exact act_idle h x

/-- The loops' words. -/
def FourOf (cb mb db nb : Nat) (i : Nat) : Prop := i = cb ∨ i = mb ∨ i = db ∨ i = nb

set_option maxHeartbeats 6000000 in
set_option maxRecDepth 100000 in
theorem order_any (slack turn : Int) (a : Option Addr) (len cap : Nat) (l : List ActD) (w : World) (hl : l.length = len) (ha : ActsAt w w.heap.size a l) (hm : cap ≤ 9223372036854775807) (hlc : len ≤ cap) (hnil : a = none → cap = 0) :
    Calls Try.prog 6 #[.int .i64 slack, .slice a len cap, .int .i64 turn] w fun e w' => e = .returned (.bool true) ∧ Below w.heap.size w w' := by
  obtain ⟨i0, hi0, hz0, hz1, hz2⟩ := info_parts act_info
  go_enter Try.func6, Try.ntmps6
  go_wp2_with fail
  refine (awake_any w).mono ?_
  rintro e w1 ⟨rfl, hb1⟩
  have ha1 := ha.below hb1
  clear ha
  go_wp2_with fail
  refine (few_any a len cap w.heap.size l w1 hl ha1 (by omega)).mono ?_
  rintro e w1' ⟨r, rfl, hr, rfl⟩
  cases r
  · clear hr
    go_wp2_with fail
    go_ret
    exact ⟨rfl, hb1⟩
  have hlen := hr rfl
  clear hr
  by_cases g0 : turn < 0
  · go_wp2_with fail
    go_ret
    exact ⟨rfl, hb1⟩
  by_cases g1 : (len : Int) < turn
  · go_wp2_with fail
    go_ret
    exact ⟨rfl, hb1⟩
  obtain ⟨k, rfl⟩ := Int.eq_ofNat_of_zero_le (show 0 ≤ turn by omega)
  have hb0 : decide ((k : Int) < 0) = false := by simp
  go_wp2_with fail
  refine (new_any slack 0 w1).mono ?_
  rintro e w2 ⟨cb, mb, rfl, hc0, hb2, hcb, hmb⟩
  go_wp2_with fail
  refine (new_any slack 0 w2).mono ?_
  rintro e w3 ⟨db, nb, rfl, hd0, hb3, hdb, hnb⟩
  have hB3 : Below w.heap.size w w3 := (hb1.trans (hb2.mono hb1.size)).trans (hb3.mono (Nat.le_trans hb1.size hb2.size))
  have ha3 : ActsAt w3 w.heap.size a l := ha1.same hb1 hB3
  have hrow := row_of_acts ha3
  rw [hl] at hrow
  have hc3 : ClockAt w3 cb mb 0 (fresh slack 0) := hc0.kept (S := fun _ => False) ⟨hb3.os, hb3.tape, hb3.output, hb3.size, fun i hi _ => hb3.block i hi⟩ (by simp) (by simp)
  have q1 := hc0.blk.lt
  have q2 := hc0.map.lt
  have q3 := hd0.blk.lt
  have q4 := hd0.map.lt
  have q5 := hb1.size
  have q6 := hb2.size
  have q7 := hb3.size
  have hA0 : HeardAll (fresh slack 0) [] := HeardAll.fresh slack
  clear ha1 hb1 hb2 hb3 hc0
  generalize fresh slack 0 = c00 at hc3 hd0 hA0
  have hkc : (k : Int) ≤ (cap : Int) := by omega
  have hk0 : (0 : Int) ≤ (k : Int) := by omega
  have hkl : (k : Int) ≤ (len : Int) := by omega
  have hkn : k ≤ len := by omega
  have own0 := own_empty w3 29 4
  have r1 : RowIn (w3.alloc (.cells #[] 29)).drew w.heap.size 4 (if cap = k then a else a.map (·.add (k * 4))) (len - k) ((l.drop k).flatMap actC) := by
    have := ((hrow.alloc (by omega) (.cells #[] 29)).drew).cut (cap := cap) hkn hlc
    rwa [flat_drop actC 4 actC_len] at this
  have r2 : RowIn (w3.alloc (.cells #[] 29)).drew w.heap.size 4 a k ((l.take k).flatMap actC) := by
    have := ((hrow.alloc (by omega) (.cells #[] 29)).drew).front hkn
    rwa [flat_take actC 4 actC_len] at this
  have hone := fun (L : List ActD) => actC_one L
  have HONE := Lib.hid hone
  have HO := Lib.hid own0
  have HR1 := Lib.hid r1
  have HR2 := Lib.hid r2
  have HL := Lib.hid hl
  have HN := Lib.hid hnil
  clear hone own0 r1 r2 hl hnil hrow
  have fin : ∀ (v : Value) (w5 : World), (w5.ownsRow w3.heap.size 29 4 v (0 + (len - k) + k) ([] ++ (l.drop k).flatMap actC ++ (l.take k).flatMap actC) ∧ Kept (fun _ => False) w3 w5) → Hid (∃ A c, v = .slice A len c ∧ w5.ownsRow w3.heap.size 29 4 (.slice A len c) len ((l.drop k ++ l.take k).flatMap actC) ∧ Kept (fun _ => False) w3 w5) := by
    intro v w5 ⟨ho, hk⟩
    rw [show 0 + (len - k) + k = len from by omega, List.nil_append, ← List.flatMap_append] at ho
    obtain ⟨A, c, rfl⟩ := own_shape ho
    exact ⟨A, c, rfl, ho, hk⟩
  by_cases hck : cap = k
  · obtain rfl : len = k := by omega
    subst hck
    have HE : Hid (∀ u ∈ ([] : List Value), u.oneCell' = true) := by intro u hu; cases hu
    have HR0 : Hid (RowIn (w3.alloc (.cells #[] 29)).drew w.heap.size 4 a 0 []) := RowIn.nil _ _ _ _
    have HF : Hid (∀ (v : Value) (w5 : World), w5.ownsRow w3.heap.size 29 4 v (0 + 0 + cap) ([] ++ [] ++ (l.take cap).flatMap actC) → w5.ownsRow w3.heap.size 29 4 v (0 + (cap - cap) + cap) ([] ++ (l.drop cap).flatMap actC ++ (l.take cap).flatMap actC)) := by
      intro v w5 h
      rw [Nat.sub_self, List.drop_of_length_le (by rw [HL.out]; exact Nat.le_refl _)]
      exact h
    clear HR1
    go_wp2_with fail
    go_region_law (first
      | (refine step_append_row _ (by rfl) (.tmp 40) (.tmp 43) 22 (by rfl) w3.heap.size 29 i0 _ 4 40 Try.underlying22 hi0 hz0 hz1 hz2 rfl (by omega) _ 0 [] (by rfl) HO.out w.heap.size a 0 0 [] (by first | rfl | simp [Act.eval, Act.put]) HR0.out (fun _ => rfl) HE.out (by unfold maxLen; omega) (by omega) (by simp) ?_; intro v1 w4 ho1 hg1 hl1)
      | (refine step_append_row _ (by rfl) (.tmp 44) (.tmp 47) 22 (by rfl) w3.heap.size 29 i0 _ 4 40 Try.underlying22 hi0 hz0 hz1 hz2 rfl (by omega) _ (0 + 0) ([] ++ []) (by rfl) ho1 w.heap.size a cap cap _ (by rfl) (HR2.out.keep (fun p hp => World.cell?_of_block (hg1.block p.block (by simp; omega) (by simp [Value.ownBlock]; omega)))) HN.out (HONE.out _) (by unfold maxLen; omega) (by omega) (Nat.le_trans (by simp) hg1.size) ?_; intro v2 w5 ho2 hg2 hl2))
    have hk5 : Kept (fun _ => False) w3 w5 := by
      have h4 : Kept (fun i => w3.heap.size ≤ i) w3 w4 := (((Kept.refl _ w3).alloc _).drew).grown hg1 (by simp [Value.ownBlock])
      have h5 := h4.grown hg2 (by
        intro j hj
        rcases hl1 with e1 | e1 <;> rw [e1] at hj
        · simp [Value.ownBlock] at hj; exact Or.inr (by omega)
        · simp at hj; exact Or.inr (by omega))
      exact ⟨h5.os, h5.tape, h5.output, h5.size, fun i hi _ => h5.block i hi (by omega)⟩
    have hex := fin v2 w5 ⟨HF.out v2 w5 ho2, hk5⟩
    clear fin ho1 ho2 hg1 hg2 hl1 hl2 hk5 HO HR0 HF HE HR2 HN HONE
    obtain ⟨A2, c2, hv2, hown, hk5⟩ := hex.out
    rw [hv2]
    clear hex hv2
    have hc5 : ClockAt w5 cb mb 0 c00 := hc3.kept hk5 (by simp) (by simp)
    have hd5 : ClockAt w5 db nb 0 c00 := hd0.kept hk5 (by simp) (by simp)
    have hB5 : Below w.heap.size w w5 := hB3.trans ⟨hk5.os, hk5.tape, hk5.output, hk5.size, fun i hi => hk5.block i (by omega) (by simp)⟩
    have ha5 : ActsAt w5 w.heap.size a l := ha3.same hB3 hB5
    have z5 := hk5.size
    clear hc3 hd0 ha3 hk5 hB3
    go_wp2_with fail
    go_loopw [10] (fun i wr => ∃ (j : Nat) (c : Ck), j ≤ cap ∧ i = .int .i64 j ∧ ClockAt wr cb mb j c ∧ HeardAll c (l.take j) ∧ Kept (fun q => q = cb ∨ q = mb) w5 wr) (fun i _ => cap - (intOf i).toNat)
    case atStart => exact ⟨0, _, Nat.zero_le _, rfl, hc5, by simpa using hA0, Kept.refl _ _⟩
    case round =>
      obtain ⟨j, c, hj, rfl, hc, hall, hkw⟩ := hrel
      have hBw : Below w.heap.size w wr := hB5.trans (hkw.toBelow (fun i hi => by omega) (by omega))
      by_cases hlt : j < cap
      · obtain ⟨x, hx⟩ : ∃ x, l[j]? = some x := ⟨l[j]'(by rw [HL.out]; exact hlt), List.getElem?_eq_getElem _⟩
        obtain ⟨b, off, rfl, hbB, e0, e1, e2, e3⟩ := (ha5.same hB5 hBw) j x hx
        have htk : l.take (j + 1) = l.take j ++ [x] := by rw [List.take_add_one, hx]; rfl
        have HTK := Lib.hid htk
        clear hx htk
        have hk8 : (j : Int) < (cap : Int) := by omega
        have hk9 : (0 : Int) ≤ (j : Int) := by omega
        go_wp2_with fail
        refine wp_text [11] (by kernel_rfl) (by kernel_rfl) ?_
        simp only [wpText, Nat.sub_zero, List.take_succ_cons, List.take_zero, List.drop_succ_cons, List.drop_zero, Nat.reduceAdd]
        repeat ((with_reducible refine wpStill_step (fun K hK => ?_)); go_simp; refine hK _ ?_; clear hK K)
        with_reducible refine wpStill_nil ?_
        go_wp2_with fail
        refine (hear_any cb mb j c x.name x.at_ 0 wr.drew ⟨hc.blk.drew, hc.map.drew, hc.ok⟩ (by omega)).mono ?_
        rintro e w6 ⟨res, c', rfl, ht, h6, hk6⟩
        have hkw6 : Kept (fun q => q = cb ∨ q = mb) w5 w6 := hkw.drew.trans hk6
        have hB6 : Below w.heap.size w w6 := hB5.trans (hkw6.toBelow (fun i hi => by omega) (by omega))
        have HT := Lib.hid ht
        clear ht hk6 hc hkw hBw
        cases res
        · go_wp2_with fail
          repeat ((with_reducible refine wpStill_step (fun K hK => ?_)); go_simp; refine hK _ ?_; clear hK K)
          with_reducible refine wpStill_nil ?_
          go_wp2_with fail
          go_ret
          exact ⟨rfl, hB6⟩
        · go_wp2_with fail
          repeat ((with_reducible refine wpStill_step (fun K hK => ?_)); go_simp; refine hK _ ?_; clear hK K)
          with_reducible refine wpStill_nil ?_
          go_wp2_with fail
          go_roundw
          case rel => exact ⟨j + 1, c', by omega, by go_num, h6, by rw [HTK.out]; exact hall.step HT.out, hkw6⟩
          case measure => simp [intOf]; omega
      · obtain rfl : cap = j := by omega
        have hall1 : HeardAll c l := by rw [List.take_of_length_le (by rw [HL.out]; exact Nat.le_refl _)] at hall; exact hall
        obtain ⟨w6, hw6⟩ : ∃ w6 : World, w6 = wr := ⟨_, rfl⟩
        rw [← hw6] at hc hkw hBw ⊢
        clear hw6 hall ha5
        have hd6 : ClockAt w6 db nb 0 c00 := hd5.kept hkw (by omega) (by omega)
        have hkw4 : Kept (FourOf cb mb db nb) w5 w6 := hkw.mono (fun i _ hi => by rcases hi with rfl | rfl; exact Or.inl rfl; exact Or.inr (Or.inl rfl))
        go_wp2_with fail
        go_loopw [11] (fun i wr => ∃ (j : Nat) (d : Ck), j ≤ cap ∧ i = .int .i64 j ∧ ClockAt wr db nb j d ∧ HeardAll d ((l.drop cap ++ l.take cap).take j) ∧ Kept (fun q => q = db ∨ q = nb) w6 wr) (fun i _ => cap - (intOf i).toNat)
        case atStart => exact ⟨0, _, Nat.zero_le _, rfl, hd6, by simpa using hA0, Kept.refl _ _⟩
        case round =>
          obtain ⟨j, d, hj, rfl, hd, halld, hkd⟩ := hrel
          have hkd4 : Kept (FourOf cb mb db nb) w5 wr := hkw4.trans' hkd (fun i _ hi => by rcases hi with rfl | rfl; exact Or.inr (Or.inr (Or.inl rfl)); exact Or.inr (Or.inr (Or.inr rfl)))
          have hBd : Below w.heap.size w wr := hB5.trans (hkd4.toBelow (fun i hi => by unfold FourOf at hi; omega) (by omega))
          have HLM : Hid ((l.drop cap ++ l.take cap).length = cap) := by
            show _ = _
            rw [List.length_append, List.length_drop, List.length_take, HL.out]; omega
          by_cases hlt : j < cap
          · obtain ⟨x, hx⟩ : ∃ x, (l.drop cap ++ l.take cap)[j]? = some x := ⟨(l.drop cap ++ l.take cap)[j]'(by rw [HLM.out]; exact hlt), List.getElem?_eq_getElem _⟩
            obtain ⟨b, off, rfl, hbB, e0, e1, e2, e3⟩ := (acts_own hown HLM.out.symm hkd4 (fun i hi h4 => by unfold FourOf at h4; omega)) j x hx
            have htk : (l.drop cap ++ l.take cap).take (j + 1) = (l.drop cap ++ l.take cap).take j ++ [x] := by rw [List.take_add_one, hx]; rfl
            have HTK := Lib.hid htk
            clear hx htk
            have hk8 : (j : Int) < (cap : Int) := by omega
            have hk9 : (0 : Int) ≤ (j : Int) := by omega
            go_wp2_with fail
            refine wp_text [11] (by kernel_rfl) (by kernel_rfl) ?_
            simp only [wpText, Nat.sub_zero, List.take_succ_cons, List.take_zero, List.drop_succ_cons, List.drop_zero, Nat.reduceAdd]
            repeat ((with_reducible refine wpStill_step (fun K hK => ?_)); go_simp; refine hK _ ?_; clear hK K)
            with_reducible refine wpStill_nil ?_
            go_wp2_with fail
            refine (hear_any db nb j d x.name x.at_ 0 wr.drew ⟨hd.blk.drew, hd.map.drew, hd.ok⟩ (by omega)).mono ?_
            rintro e w7 ⟨res, d', rfl, ht, h7, hk7⟩
            have hkd7 : Kept (fun q => q = db ∨ q = nb) w6 w7 := hkd.drew.trans hk7
            have hB7 : Below w.heap.size w w7 := hBw.trans (hkd7.toBelow (fun i hi => by omega) (by have := hkw.size; omega))
            have HT := Lib.hid ht
            clear ht hk7 hd hkd hBd hkd4
            cases res
            · go_wp2_with fail
              repeat ((with_reducible refine wpStill_step (fun K hK => ?_)); go_simp; refine hK _ ?_; clear hK K)
              with_reducible refine wpStill_nil ?_
              go_wp2_with fail
              go_ret
              exact ⟨rfl, hB7⟩
            · go_wp2_with fail
              repeat ((with_reducible refine wpStill_step (fun K hK => ?_)); go_simp; refine hK _ ?_; clear hK K)
              with_reducible refine wpStill_nil ?_
              go_wp2_with fail
              go_roundw
              case rel => exact ⟨j + 1, d', by omega, by go_num, h7, by rw [HTK.out]; exact halld.step HT.out, hkd7⟩
              case measure => simp [intOf]; omega
          · obtain rfl : cap = j := by omega
            have halld1 : HeardAll d (l.drop cap ++ l.take cap) := by rw [List.take_of_length_le (by rw [HLM.out]; exact Nat.le_refl _)] at halld; exact halld
            have hsame : ∀ s, (c.src s).map Prod.fst = (d.src s).map Prod.fst := hall1.same halld1 (fun x => by
              rw [List.mem_append, or_comm, ← List.mem_append, List.take_append_drop])
            have HS := Lib.hid hsame
            obtain ⟨w7, hw7⟩ : ∃ w7 : World, w7 = wr := ⟨_, rfl⟩
            rw [← hw7] at hd hkd hBd ⊢
            clear hw7 halld hsame hown hkd4 hkw4 HLM
            have hc7 : ClockAt w7 cb mb cap c := hc.kept hkd (by omega) (by omega)
            clear hc hkd hkw hBw hd6
            go_wp2_with fail
            refine (sources_any cb mb _ c w7 hc7 (by omega)).mono ?_
            rintro e w8 ⟨v8, ks, rfl, hks, hrow8, hb8, hle8⟩
            have HKS := Lib.hid hks
            clear hks
            have hd8 : ClockAt w8 db nb cap d := hd.kept (S := fun _ => False) ⟨hb8.os, hb8.tape, hb8.output, hb8.size, fun i hi _ => hb8.block i hi⟩ (by simp) (by simp)
            have hc8 : ClockAt w8 cb mb cap c := hc7.kept (S := fun _ => False) ⟨hb8.os, hb8.tape, hb8.output, hb8.size, fun i hi _ => hb8.block i hi⟩ (by simp) (by simp)
            go_wp2_with fail
            refine (sources_any db nb _ d w8 hd8 (by omega)).mono ?_
            rintro e w9 ⟨v9, ks', rfl, hks', hrow9, hb9, hle9⟩
            obtain rfl : ks = ks' := HKS.out.unique hks' (fun s => by
              have := HS.out s
              cases hc : c.src s <;> cases hd : d.src s <;> rw [hc, hd] at this <;> simp at this <;> rfl)
            have hrow8' : w9.ownsRow w7.heap.size 9 1 v8 ks.length (ks.map encStr) := hrow8.kept ⟨hb9.os, hb9.tape, hb9.output, hb9.size, fun i hi _ => hb9.block i hi⟩ (row := none) (Classical.em _)
            obtain ⟨A8, c8, hv8⟩ := own_shape hrow8'
            obtain ⟨A9, c9, hv9⟩ := own_shape hrow9
            rw [hv8] at hrow8'
            rw [hv9] at hrow9
            rw [hv8, hv9]
            have row8 := RowIn.of_own hrow8'
            have row9 := RowIn.of_own hrow9
            have hc9 : ClockAt w9 cb mb cap c := hc8.kept (S := fun _ => False) ⟨hb9.os, hb9.tape, hb9.output, hb9.size, fun i hi _ => hb9.block i hi⟩ (by simp) (by simp)
            have hd9 : ClockAt w9 db nb cap d := hd8.kept (S := fun _ => False) ⟨hb9.os, hb9.tape, hb9.output, hb9.size, fun i hi _ => hb9.block i hi⟩ (by simp) (by simp)
            have hB9 : Below w.heap.size w w9 := (hBd.trans (hb8.mono hBd.size)).trans (hb9.mono (Nat.le_trans hBd.size hb8.size))
            have hkm : ks.length ≤ 9223372036854775807 := by
              rcases hrow8.2 with ⟨_, h0⟩ | ⟨_, _, _, _, _, _, h1, h2, _⟩
              · omega
              · unfold maxLen at h2; omega
            clear hks' hrow8 hrow8' hrow9 hv8 hv9 hb8 hb9 hc7 hc8 hd8 hd
            have hne : ((ks.length : Int) != (ks.length : Int)) = false := by simp
            go_wp2_with fail
            go_loopw [14] (fun i wr => ∃ (j : Nat), j ≤ ks.length ∧ i = .int .i64 j ∧ Below w9.heap.size w9 wr) (fun i _ => ks.length - (intOf i).toNat)
            case atStart => exact ⟨0, Nat.zero_le _, rfl, Below.refl _ _⟩
            case round =>
              obtain ⟨j, hj, rfl, hBj⟩ := hrel
              by_cases hlt : j < ks.length
              · obtain ⟨s, hs⟩ : ∃ s, ks[j]? = some s := ⟨ks[j]'hlt, List.getElem?_eq_getElem _⟩
                have hsm : s ∈ ks := List.mem_of_getElem? hs
                obtain ⟨g8, o8, rfl, hg8, hcell8⟩ := row8.at (by omega)
                obtain ⟨g9, o9, rfl, hg9, hcell9⟩ := row9.at (by omega)
                have f8 := hcell8 j (encStr s) (by rw [List.getElem?_map, hs]; rfl)
                have f9 := hcell9 j (encStr s) (by rw [List.getElem?_map, hs]; rfl)
                have hsc : (c.src s).isSome = true := (HKS.out.mem s).1 hsm
                have hsd : (d.src s).isSome = true := by
                  have := HS.out s
                  cases hc : c.src s <;> cases hd : d.src s <;> rw [hc, hd] at this <;> simp at this
                  · rw [hc] at hsc; cases hsc
                  · rfl
                have hac := active_of_some hall1.idle hsc
                have had := active_of_some halld1.idle hsd
                have hhd : heardOf d s = heardOf c s := (heard_same (HS.out s)).symm
                obtain ⟨mm, hhc⟩ : ∃ mm, heardOf c s = mm := ⟨_, rfl⟩
                rw [hhc] at hhd
                have hsl := hle9 s hsm
                have hSB : SBoth cb mb db nb cap c d g8 (o8 + j) g9 (o9 + j) s w9 wr := (show SBoth cb mb db nb cap c d g8 (o8 + j) g9 (o9 + j) s w9 w9 from ⟨f8, f9, hc9, hd9, Below.refl _ _⟩).below hBj
                have t1 := fun (W : World) => both_heard_c (W := W) (cb := cb) (mb := mb) (db := db) (nb := nb) (n := cap) (c := c) (d := d) (g8 := g8) (o8 := o8 + j) (g9 := g9) (o9 := o9 + j) (s := s) (w9 := w9) hsl mm hhc
                have t2 := fun (W : World) => both_heard_d (W := W) (cb := cb) (mb := mb) (db := db) (nb := nb) (n := cap) (c := c) (d := d) (g8 := g8) (o8 := o8 + j) (g9 := g9) (o9 := o9 + j) (s := s) (w9 := w9) hsl mm hhd
                have t3 := fun (W : World) => both_active_c (W := W) (cb := cb) (mb := mb) (db := db) (nb := nb) (n := cap) (c := c) (d := d) (g8 := g8) (o8 := o8 + j) (g9 := g9) (o9 := o9 + j) (s := s) (w9 := w9) hsl hac
                have t4 := fun (W : World) => both_active_d (W := W) (cb := cb) (mb := mb) (db := db) (nb := nb) (n := cap) (c := c) (d := d) (g8 := g8) (o8 := o8 + j) (g9 := g9) (o9 := o9 + j) (s := s) (w9 := w9) hsl had
                have T1 := Lib.hid t1
                have T2 := Lib.hid t2
                have T3 := Lib.hid t3
                have T4 := Lib.hid t4
                have hgl8 : g8 < wr.heap.size := Nat.lt_of_lt_of_le hg8 hBj.size
                have hgl9 : g9 < wr.heap.size := Nat.lt_of_lt_of_le hg9 hBj.size
                obtain ⟨x1, x2, x3, x4, x5⟩ := hSB.drew
                obtain ⟨u1, u2, u3, u4, u5⟩ := hSB
                clear t1 t2 t3 t4 hs hsm hcell8 hcell9 f8 f9 hsc hsd hac had hhd hhc hsl hc9 hd9 hBj row8 row9
                have hk8 : (j : Int) < (ks.length : Int) := by omega
                have hk9 : (0 : Int) ≤ (j : Int) := by omega
                have hq1 : (mm != mm) = false := by simp
                have hq2 : (({ data := s.toArray } : ByteArray).toList != ({ data := s.toArray } : ByteArray).toList) = false := by simp
                go_wp2_with fail
                go_region_held3 (fun W => W.cell? ⟨g8, o8 + j, none⟩ = some (.string ⟨s.toArray⟩) ∧ W.cell? ⟨g9, o9 + j, none⟩ = some (.string ⟨s.toArray⟩) ∧ ClockAt W cb mb cap c ∧ ClockAt W db nb cap d ∧ Below w9.heap.size w9 W) (exact ⟨by assumption, by assumption, by assumption, by assumption, by assumption⟩)
                  (first | (go_at_call 14; (with_reducible refine (T1.out _ ?_).mono ?_); (exact SBoth.of (by assumption) (by assumption) (by assumption) (by assumption) (by assumption)); rintro e w' ⟨rfl, y1, y2, y3, y4, y5⟩) | (go_at_call 14; (with_reducible refine (T2.out _ ?_).mono ?_); (exact SBoth.of (by assumption) (by assumption) (by assumption) (by assumption) (by assumption)); rintro e w' ⟨rfl, y1, y2, y3, y4, y5⟩) | (go_at_call 15; (with_reducible refine (T3.out _ ?_).mono ?_); (exact SBoth.of (by assumption) (by assumption) (by assumption) (by assumption) (by assumption)); rintro e w' ⟨rfl, y1, y2, y3, y4, y5⟩) | (go_at_call 15; (with_reducible refine (T4.out _ ?_).mono ?_); (exact SBoth.of (by assumption) (by assumption) (by assumption) (by assumption) (by assumption)); rintro e w' ⟨rfl, y1, y2, y3, y4, y5⟩))
                clear T1 T2 T3 T4
                go_wp2_with fail
                go_roundw
                case rel => exact ⟨j + 1, by omega, by go_num, by assumption⟩
                case measure => simp [intOf]; omega
              · go_wp2_with fail
                go_ret
                exact ⟨rfl, hB9.trans (hBj.mono hB9.size)⟩
  · have HNA : Hid (a.map (·.add (k * 4)) = none → cap - k = 0) := fun h => by
      have := HN.out (by simpa using h)
      omega
    rw [if_neg hck] at HR1
    go_wp2_with fail
    go_region_law (first
      | (refine step_append_row _ (by rfl) (.tmp 40) (.tmp 43) 22 (by rfl) w3.heap.size 29 i0 _ 4 40 Try.underlying22 hi0 hz0 hz1 hz2 rfl (by omega) _ 0 [] (by rfl) HO.out w.heap.size (a.map (·.add (k * 4))) (len - k) (cap - k) _ (by rfl) HR1.out HNA.out (HONE.out _) (by unfold maxLen; omega) (by omega) (by simp) ?_; intro v1 w4 ho1 hg1 hl1)
      | (refine step_append_row _ (by rfl) (.tmp 44) (.tmp 47) 22 (by rfl) w3.heap.size 29 i0 _ 4 40 Try.underlying22 hi0 hz0 hz1 hz2 rfl (by omega) _ (0 + (len - k)) ([] ++ (l.drop k).flatMap actC) (by rfl) ho1 w.heap.size a k cap _ (by rfl) (HR2.out.keep (fun p hp => World.cell?_of_block (hg1.block p.block (by simp; omega) (by simp [Value.ownBlock]; omega)))) HN.out (HONE.out _) (by unfold maxLen; omega) (by omega) (Nat.le_trans (by simp) hg1.size) ?_; intro v2 w5 ho2 hg2 hl2))
    have hk5 : Kept (fun _ => False) w3 w5 := by
      have h4 : Kept (fun i => w3.heap.size ≤ i) w3 w4 := (((Kept.refl _ w3).alloc _).drew).grown hg1 (by simp [Value.ownBlock])
      have h5 := h4.grown hg2 (by
        intro j hj
        rcases hl1 with e1 | e1 <;> rw [e1] at hj
        · simp [Value.ownBlock] at hj; exact Or.inr (by omega)
        · simp at hj; exact Or.inr (by omega))
      exact ⟨h5.os, h5.tape, h5.output, h5.size, fun i hi _ => h5.block i hi (by omega)⟩
    have hex := fin v2 w5 ⟨ho2, hk5⟩
    clear fin ho1 ho2 hg1 hg2 hl1 hl2 hk5 HO HR1 HR2 HN HNA HONE
    obtain ⟨A2, c2, hv2, hown, hk5⟩ := hex.out
    rw [hv2]
    clear hex hv2
    generalize (Option.map (fun x : Addr => x.add (k * 4)) a) = a43
    have hc5 : ClockAt w5 cb mb 0 c00 := hc3.kept hk5 (by simp) (by simp)
    have hd5 : ClockAt w5 db nb 0 c00 := hd0.kept hk5 (by simp) (by simp)
    have hB5 : Below w.heap.size w w5 := hB3.trans ⟨hk5.os, hk5.tape, hk5.output, hk5.size, fun i hi => hk5.block i (by omega) (by simp)⟩
    have ha5 : ActsAt w5 w.heap.size a l := ha3.same hB3 hB5
    have z5 := hk5.size
    clear hc3 hd0 ha3 hk5 hB3
    go_wp2_with fail
    go_loopw [10] (fun i wr => ∃ (j : Nat) (c : Ck), j ≤ len ∧ i = .int .i64 j ∧ ClockAt wr cb mb j c ∧ HeardAll c (l.take j) ∧ Kept (fun q => q = cb ∨ q = mb) w5 wr) (fun i _ => len - (intOf i).toNat)
    case atStart => exact ⟨0, _, Nat.zero_le _, rfl, hc5, by simpa using hA0, Kept.refl _ _⟩
    case round =>
      obtain ⟨j, c, hj, rfl, hc, hall, hkw⟩ := hrel
      have hBw : Below w.heap.size w wr := hB5.trans (hkw.toBelow (fun i hi => by omega) (by omega))
      by_cases hlt : j < len
      · obtain ⟨x, hx⟩ : ∃ x, l[j]? = some x := ⟨l[j]'(by rw [HL.out]; exact hlt), List.getElem?_eq_getElem _⟩
        obtain ⟨b, off, rfl, hbB, e0, e1, e2, e3⟩ := (ha5.same hB5 hBw) j x hx
        have htk : l.take (j + 1) = l.take j ++ [x] := by rw [List.take_add_one, hx]; rfl
        have HTK := Lib.hid htk
        clear hx htk
        have hk8 : (j : Int) < (len : Int) := by omega
        have hk9 : (0 : Int) ≤ (j : Int) := by omega
        go_wp2_with fail
        refine wp_text [11] (by kernel_rfl) (by kernel_rfl) ?_
        simp only [wpText, Nat.sub_zero, List.take_succ_cons, List.take_zero, List.drop_succ_cons, List.drop_zero, Nat.reduceAdd]
        repeat ((with_reducible refine wpStill_step (fun K hK => ?_)); go_simp; refine hK _ ?_; clear hK K)
        with_reducible refine wpStill_nil ?_
        go_wp2_with fail
        refine (hear_any cb mb j c x.name x.at_ 0 wr.drew ⟨hc.blk.drew, hc.map.drew, hc.ok⟩ (by omega)).mono ?_
        rintro e w6 ⟨res, c', rfl, ht, h6, hk6⟩
        have hkw6 : Kept (fun q => q = cb ∨ q = mb) w5 w6 := hkw.drew.trans hk6
        have hB6 : Below w.heap.size w w6 := hB5.trans (hkw6.toBelow (fun i hi => by omega) (by omega))
        have HT := Lib.hid ht
        clear ht hk6 hc hkw hBw
        cases res
        · go_wp2_with fail
          repeat ((with_reducible refine wpStill_step (fun K hK => ?_)); go_simp; refine hK _ ?_; clear hK K)
          with_reducible refine wpStill_nil ?_
          go_wp2_with fail
          go_ret
          exact ⟨rfl, hB6⟩
        · go_wp2_with fail
          repeat ((with_reducible refine wpStill_step (fun K hK => ?_)); go_simp; refine hK _ ?_; clear hK K)
          with_reducible refine wpStill_nil ?_
          go_wp2_with fail
          go_roundw
          case rel => exact ⟨j + 1, c', by omega, by go_num, h6, by rw [HTK.out]; exact hall.step HT.out, hkw6⟩
          case measure => simp [intOf]; omega
      · obtain rfl : len = j := by omega
        have hall1 : HeardAll c l := by rw [List.take_of_length_le (by rw [HL.out]; exact Nat.le_refl _)] at hall; exact hall
        obtain ⟨w6, hw6⟩ : ∃ w6 : World, w6 = wr := ⟨_, rfl⟩
        rw [← hw6] at hc hkw hBw ⊢
        clear hw6 hall ha5
        have hd6 : ClockAt w6 db nb 0 c00 := hd5.kept hkw (by omega) (by omega)
        have hkw4 : Kept (FourOf cb mb db nb) w5 w6 := hkw.mono (fun i _ hi => by rcases hi with rfl | rfl; exact Or.inl rfl; exact Or.inr (Or.inl rfl))
        go_wp2_with fail
        go_loopw [11] (fun i wr => ∃ (j : Nat) (d : Ck), j ≤ len ∧ i = .int .i64 j ∧ ClockAt wr db nb j d ∧ HeardAll d ((l.drop k ++ l.take k).take j) ∧ Kept (fun q => q = db ∨ q = nb) w6 wr) (fun i _ => len - (intOf i).toNat)
        case atStart => exact ⟨0, _, Nat.zero_le _, rfl, hd6, by simpa using hA0, Kept.refl _ _⟩
        case round =>
          obtain ⟨j, d, hj, rfl, hd, halld, hkd⟩ := hrel
          have hkd4 : Kept (FourOf cb mb db nb) w5 wr := hkw4.trans' hkd (fun i _ hi => by rcases hi with rfl | rfl; exact Or.inr (Or.inr (Or.inl rfl)); exact Or.inr (Or.inr (Or.inr rfl)))
          have hBd : Below w.heap.size w wr := hB5.trans (hkd4.toBelow (fun i hi => by unfold FourOf at hi; omega) (by omega))
          have HLM : Hid ((l.drop k ++ l.take k).length = len) := by
            show _ = _
            rw [List.length_append, List.length_drop, List.length_take, HL.out]; omega
          by_cases hlt : j < len
          · obtain ⟨x, hx⟩ : ∃ x, (l.drop k ++ l.take k)[j]? = some x := ⟨(l.drop k ++ l.take k)[j]'(by rw [HLM.out]; exact hlt), List.getElem?_eq_getElem _⟩
            obtain ⟨b, off, rfl, hbB, e0, e1, e2, e3⟩ := (acts_own hown HLM.out.symm hkd4 (fun i hi h4 => by unfold FourOf at h4; omega)) j x hx
            have htk : (l.drop k ++ l.take k).take (j + 1) = (l.drop k ++ l.take k).take j ++ [x] := by rw [List.take_add_one, hx]; rfl
            have HTK := Lib.hid htk
            clear hx htk
            have hk8 : (j : Int) < (len : Int) := by omega
            have hk9 : (0 : Int) ≤ (j : Int) := by omega
            go_wp2_with fail
            refine wp_text [11] (by kernel_rfl) (by kernel_rfl) ?_
            simp only [wpText, Nat.sub_zero, List.take_succ_cons, List.take_zero, List.drop_succ_cons, List.drop_zero, Nat.reduceAdd]
            repeat ((with_reducible refine wpStill_step (fun K hK => ?_)); go_simp; refine hK _ ?_; clear hK K)
            with_reducible refine wpStill_nil ?_
            go_wp2_with fail
            refine (hear_any db nb j d x.name x.at_ 0 wr.drew ⟨hd.blk.drew, hd.map.drew, hd.ok⟩ (by omega)).mono ?_
            rintro e w7 ⟨res, d', rfl, ht, h7, hk7⟩
            have hkd7 : Kept (fun q => q = db ∨ q = nb) w6 w7 := hkd.drew.trans hk7
            have hB7 : Below w.heap.size w w7 := hBw.trans (hkd7.toBelow (fun i hi => by omega) (by have := hkw.size; omega))
            have HT := Lib.hid ht
            clear ht hk7 hd hkd hBd hkd4
            cases res
            · go_wp2_with fail
              repeat ((with_reducible refine wpStill_step (fun K hK => ?_)); go_simp; refine hK _ ?_; clear hK K)
              with_reducible refine wpStill_nil ?_
              go_wp2_with fail
              go_ret
              exact ⟨rfl, hB7⟩
            · go_wp2_with fail
              repeat ((with_reducible refine wpStill_step (fun K hK => ?_)); go_simp; refine hK _ ?_; clear hK K)
              with_reducible refine wpStill_nil ?_
              go_wp2_with fail
              go_roundw
              case rel => exact ⟨j + 1, d', by omega, by go_num, h7, by rw [HTK.out]; exact halld.step HT.out, hkd7⟩
              case measure => simp [intOf]; omega
          · obtain rfl : len = j := by omega
            have halld1 : HeardAll d (l.drop k ++ l.take k) := by rw [List.take_of_length_le (by rw [HLM.out]; exact Nat.le_refl _)] at halld; exact halld
            have hsame : ∀ s, (c.src s).map Prod.fst = (d.src s).map Prod.fst := hall1.same halld1 (fun x => by
              rw [List.mem_append, or_comm, ← List.mem_append, List.take_append_drop])
            have HS := Lib.hid hsame
            obtain ⟨w7, hw7⟩ : ∃ w7 : World, w7 = wr := ⟨_, rfl⟩
            rw [← hw7] at hd hkd hBd ⊢
            clear hw7 halld hsame hown hkd4 hkw4 HLM
            have hc7 : ClockAt w7 cb mb len c := hc.kept hkd (by omega) (by omega)
            clear hc hkd hkw hBw hd6
            go_wp2_with fail
            refine (sources_any cb mb _ c w7 hc7 (by omega)).mono ?_
            rintro e w8 ⟨v8, ks, rfl, hks, hrow8, hb8, hle8⟩
            have HKS := Lib.hid hks
            clear hks
            have hd8 : ClockAt w8 db nb len d := hd.kept (S := fun _ => False) ⟨hb8.os, hb8.tape, hb8.output, hb8.size, fun i hi _ => hb8.block i hi⟩ (by simp) (by simp)
            have hc8 : ClockAt w8 cb mb len c := hc7.kept (S := fun _ => False) ⟨hb8.os, hb8.tape, hb8.output, hb8.size, fun i hi _ => hb8.block i hi⟩ (by simp) (by simp)
            go_wp2_with fail
            refine (sources_any db nb _ d w8 hd8 (by omega)).mono ?_
            rintro e w9 ⟨v9, ks', rfl, hks', hrow9, hb9, hle9⟩
            obtain rfl : ks = ks' := HKS.out.unique hks' (fun s => by
              have := HS.out s
              cases hc : c.src s <;> cases hd : d.src s <;> rw [hc, hd] at this <;> simp at this <;> rfl)
            have hrow8' : w9.ownsRow w7.heap.size 9 1 v8 ks.length (ks.map encStr) := hrow8.kept ⟨hb9.os, hb9.tape, hb9.output, hb9.size, fun i hi _ => hb9.block i hi⟩ (row := none) (Classical.em _)
            obtain ⟨A8, c8, hv8⟩ := own_shape hrow8'
            obtain ⟨A9, c9, hv9⟩ := own_shape hrow9
            rw [hv8] at hrow8'
            rw [hv9] at hrow9
            rw [hv8, hv9]
            have row8 := RowIn.of_own hrow8'
            have row9 := RowIn.of_own hrow9
            have hc9 : ClockAt w9 cb mb len c := hc8.kept (S := fun _ => False) ⟨hb9.os, hb9.tape, hb9.output, hb9.size, fun i hi _ => hb9.block i hi⟩ (by simp) (by simp)
            have hd9 : ClockAt w9 db nb len d := hd8.kept (S := fun _ => False) ⟨hb9.os, hb9.tape, hb9.output, hb9.size, fun i hi _ => hb9.block i hi⟩ (by simp) (by simp)
            have hB9 : Below w.heap.size w w9 := (hBd.trans (hb8.mono hBd.size)).trans (hb9.mono (Nat.le_trans hBd.size hb8.size))
            have hkm : ks.length ≤ 9223372036854775807 := by
              rcases hrow8.2 with ⟨_, h0⟩ | ⟨_, _, _, _, _, _, h1, h2, _⟩
              · omega
              · unfold maxLen at h2; omega
            clear hks' hrow8 hrow8' hrow9 hv8 hv9 hb8 hb9 hc7 hc8 hd8 hd
            have hne : ((ks.length : Int) != (ks.length : Int)) = false := by simp
            go_wp2_with fail
            go_loopw [14] (fun i wr => ∃ (j : Nat), j ≤ ks.length ∧ i = .int .i64 j ∧ Below w9.heap.size w9 wr) (fun i _ => ks.length - (intOf i).toNat)
            case atStart => exact ⟨0, Nat.zero_le _, rfl, Below.refl _ _⟩
            case round =>
              obtain ⟨j, hj, rfl, hBj⟩ := hrel
              by_cases hlt : j < ks.length
              · obtain ⟨s, hs⟩ : ∃ s, ks[j]? = some s := ⟨ks[j]'hlt, List.getElem?_eq_getElem _⟩
                have hsm : s ∈ ks := List.mem_of_getElem? hs
                obtain ⟨g8, o8, rfl, hg8, hcell8⟩ := row8.at (by omega)
                obtain ⟨g9, o9, rfl, hg9, hcell9⟩ := row9.at (by omega)
                have f8 := hcell8 j (encStr s) (by rw [List.getElem?_map, hs]; rfl)
                have f9 := hcell9 j (encStr s) (by rw [List.getElem?_map, hs]; rfl)
                have hsc : (c.src s).isSome = true := (HKS.out.mem s).1 hsm
                have hsd : (d.src s).isSome = true := by
                  have := HS.out s
                  cases hc : c.src s <;> cases hd : d.src s <;> rw [hc, hd] at this <;> simp at this
                  · rw [hc] at hsc; cases hsc
                  · rfl
                have hac := active_of_some hall1.idle hsc
                have had := active_of_some halld1.idle hsd
                have hhd : heardOf d s = heardOf c s := (heard_same (HS.out s)).symm
                obtain ⟨mm, hhc⟩ : ∃ mm, heardOf c s = mm := ⟨_, rfl⟩
                rw [hhc] at hhd
                have hsl := hle9 s hsm
                have hSB : SBoth cb mb db nb len c d g8 (o8 + j) g9 (o9 + j) s w9 wr := (show SBoth cb mb db nb len c d g8 (o8 + j) g9 (o9 + j) s w9 w9 from ⟨f8, f9, hc9, hd9, Below.refl _ _⟩).below hBj
                have t1 := fun (W : World) => both_heard_c (W := W) (cb := cb) (mb := mb) (db := db) (nb := nb) (n := len) (c := c) (d := d) (g8 := g8) (o8 := o8 + j) (g9 := g9) (o9 := o9 + j) (s := s) (w9 := w9) hsl mm hhc
                have t2 := fun (W : World) => both_heard_d (W := W) (cb := cb) (mb := mb) (db := db) (nb := nb) (n := len) (c := c) (d := d) (g8 := g8) (o8 := o8 + j) (g9 := g9) (o9 := o9 + j) (s := s) (w9 := w9) hsl mm hhd
                have t3 := fun (W : World) => both_active_c (W := W) (cb := cb) (mb := mb) (db := db) (nb := nb) (n := len) (c := c) (d := d) (g8 := g8) (o8 := o8 + j) (g9 := g9) (o9 := o9 + j) (s := s) (w9 := w9) hsl hac
                have t4 := fun (W : World) => both_active_d (W := W) (cb := cb) (mb := mb) (db := db) (nb := nb) (n := len) (c := c) (d := d) (g8 := g8) (o8 := o8 + j) (g9 := g9) (o9 := o9 + j) (s := s) (w9 := w9) hsl had
                have T1 := Lib.hid t1
                have T2 := Lib.hid t2
                have T3 := Lib.hid t3
                have T4 := Lib.hid t4
                have hgl8 : g8 < wr.heap.size := Nat.lt_of_lt_of_le hg8 hBj.size
                have hgl9 : g9 < wr.heap.size := Nat.lt_of_lt_of_le hg9 hBj.size
                obtain ⟨x1, x2, x3, x4, x5⟩ := hSB.drew
                obtain ⟨u1, u2, u3, u4, u5⟩ := hSB
                clear t1 t2 t3 t4 hs hsm hcell8 hcell9 f8 f9 hsc hsd hac had hhd hhc hsl hc9 hd9 hBj row8 row9
                have hk8 : (j : Int) < (ks.length : Int) := by omega
                have hk9 : (0 : Int) ≤ (j : Int) := by omega
                have hq1 : (mm != mm) = false := by simp
                have hq2 : (({ data := s.toArray } : ByteArray).toList != ({ data := s.toArray } : ByteArray).toList) = false := by simp
                go_wp2_with fail
                go_region_held3 (fun W => W.cell? ⟨g8, o8 + j, none⟩ = some (.string ⟨s.toArray⟩) ∧ W.cell? ⟨g9, o9 + j, none⟩ = some (.string ⟨s.toArray⟩) ∧ ClockAt W cb mb len c ∧ ClockAt W db nb len d ∧ Below w9.heap.size w9 W) (exact ⟨by assumption, by assumption, by assumption, by assumption, by assumption⟩)
                  (first | (go_at_call 14; (with_reducible refine (T1.out _ ?_).mono ?_); (exact SBoth.of (by assumption) (by assumption) (by assumption) (by assumption) (by assumption)); rintro e w' ⟨rfl, y1, y2, y3, y4, y5⟩) | (go_at_call 14; (with_reducible refine (T2.out _ ?_).mono ?_); (exact SBoth.of (by assumption) (by assumption) (by assumption) (by assumption) (by assumption)); rintro e w' ⟨rfl, y1, y2, y3, y4, y5⟩) | (go_at_call 15; (with_reducible refine (T3.out _ ?_).mono ?_); (exact SBoth.of (by assumption) (by assumption) (by assumption) (by assumption) (by assumption)); rintro e w' ⟨rfl, y1, y2, y3, y4, y5⟩) | (go_at_call 15; (with_reducible refine (T4.out _ ?_).mono ?_); (exact SBoth.of (by assumption) (by assumption) (by assumption) (by assumption) (by assumption)); rintro e w' ⟨rfl, y1, y2, y3, y4, y5⟩))
                clear T1 T2 T3 T4
                go_wp2_with fail
                go_roundw
                case rel => exact ⟨j + 1, by omega, by go_num, by assumption⟩
                case measure => simp [intOf]; omega
              · go_wp2_with fail
                go_ret
                exact ⟨rfl, hB9.trans (hBj.mono hB9.size)⟩

end Go.Proofs.Ytanhiohalgeijaa
