/- The document's Taste. -/
import Derived.Test.YtnkglbiakjnfjaaDoorCrPut
namespace Go.Proofs.YtnkglbiakjnfjaaDoor
open Go.Shelf Go.RowKit Go.Maps
set_option linter.unusedVariables false

/-! ### plain -/
theorem DdsIs.cons {w : World} {r : Rd} {x : Rw} {l : List Rd} {xs : List Rw} (hr : DdIs w r x) (h : DdsIs w l xs) : DdsIs w (r :: l) (x :: xs) := by
  refine ⟨by simp [h.1], fun j r' x' h1 h2 => ?_⟩
  cases j with
  | zero => simp at h1 h2; subst h1 h2; exact hr
  | succ j => exact h.2 j r' x' (by simpa using h1) (by simpa using h2)
theorem DdsIs.inv {w : World} {r : Rd} {x : Rw} {l : List Rd} {xs : List Rw} (h : DdsIs w (r :: l) (x :: xs)) : DdIs w r x ∧ DdsIs w l xs :=
  ⟨h.2 0 r x rfl rfl, by simpa using h.1, fun j r' x' h1 h2 => h.2 (j + 1) r' x' (by simpa using h1) (by simpa using h2)⟩
theorem DdsIs.own {w : World} {p : ByteArray} : ∀ {l : List Rd} {xs : List Rw}, DdsIs w l xs → DdsIs w (ownR l p) (ownC xs p)
  | [], [], _ => ⟨rfl, fun j r x h => by simp [ownR] at h⟩
  | [], x :: xs, h => by have := h.1; simp at this
  | r :: l, [], h => by have := h.1; simp at this
  | r :: l, x :: xs, h => by
    obtain ⟨h1, h2⟩ := h.inv
    have ih := DdsIs.own (p := p) h2
    unfold ownR ownC at ih ⊢
    rw [List.filter_cons, List.filter_cons, h1.1]
    by_cases e : x.e.person = p
    · simp only [e, decide_true, if_true]
      exact DdsIs.cons h1 ih
    · simp only [e, decide_false]
      exact ih
theorem giv_in {half now : Int} {t : ByteArray} {r : Rw} (h : memB t r.ts = true) : giv half now t r = worthP r.e * wgtP (now - r.e.tick) half := by
  unfold giv rowW
  rw [h, Bool.and_true]
  by_cases e : r.e.tick ≤ now
  · rw [if_pos (decide_eq_true e)]
  · rw [if_neg (by simp [e])]
    unfold wgtP
    rw [if_pos (by omega), Int.mul_zero]
theorem giv_out {half now : Int} {t : ByteArray} {r : Rw} (h : memB t r.ts = false) : giv half now t r = 0 := by
  unfold giv
  rw [h, Bool.and_false]
  rfl
theorem giv_bd {half now : Int} {t : ByteArray} {r : Rw} (hm : mayB r.e = true) : 0 ≤ giv half now t r ∧ giv half now t r ≤ 5242880 := by
  cases e : memB t r.ts
  · rw [giv_out e]; omega
  · rw [giv_in e]; exact mul_bd (worth_bd hm) (wgt_bd _ _)
/-- All tags of some rows, rising. -/
def AllT (l : List Rw) (q : List ByteArray) : Prop := q.Pairwise ltN ∧ ∀ y, y ∈ q ↔ ∃ x ∈ l, y ∈ x.ts
/-- The counts of some tags. -/
def CtsOf (S : ByteArray → Int) (T : List ByteArray) (out : List Ct) : Prop := out.Pairwise ltC ∧ ∀ c, c ∈ out ↔ 0 < c.n ∧ c.n = S c.key ∧ c.key ∈ T
theorem CtsOf.skip {S : ByteArray → Int} {T : List ByteArray} {out : List Ct} (h : CtsOf S T out) {t : ByteArray} (hs : ¬ 0 < S t) : CtsOf S (T ++ [t]) out := ⟨h.1, fun c => by
  rw [h.2, List.mem_append, List.mem_singleton]
  constructor
  · rintro ⟨h1, h2, h3⟩; exact ⟨h1, h2, Or.inl h3⟩
  · rintro ⟨h1, h2, h3 | h3⟩
    · exact ⟨h1, h2, h3⟩
    · rw [h2, h3] at h1; exact absurd h1 hs⟩
theorem CtsOf.put {S : ByteArray → Int} {T : List ByteArray} {out out' : List Ct} (h : CtsOf S T out) {t : ByteArray} (hs : 0 < S t) (ho : out'.Pairwise ltC ∧ ∀ y, y ∈ out' ↔ y ∈ out ∨ y = ⟨t, S t⟩) : CtsOf S (T ++ [t]) out' := ⟨ho.1, fun c => by
  rw [ho.2, h.2, List.mem_append, List.mem_singleton]
  constructor
  · rintro (⟨h1, h2, h3⟩ | rfl)
    · exact ⟨h1, h2, Or.inl h3⟩
    · exact ⟨hs, rfl, Or.inr rfl⟩
  · rintro ⟨h1, h2, h3 | h3⟩
    · exact Or.inl ⟨h1, h2, h3⟩
    · right; cases c; simp at h2 h3; subst h3; rw [h2]⟩
theorem CtsOf.off {S : ByteArray → Int} {T : List ByteArray} {out : List Ct} (h : CtsOf S T out) {t : ByteArray} (ht : t ∉ T) (z : Int) : (⟨t, z⟩ : Ct) ∉ out := fun hc => ht ((h.2 _).1 hc).2.2

set_option maxHeartbeats 8000000 in
set_option maxRecDepth 100000 in
theorem rtaste_any (w : World) (B : Nat) (A : Option Addr) (n c : Nat) (xl : List Rd) (xs : List Rw) (half : Int) (p : ByteArray) (now : Int) (hn : xl.length = n) (hr : RowIn w B 9 A n (xl.flatMap rdC)) (hB : B ≤ w.heap.size) (hd : DdsIs w xl xs) (hm : ∀ x ∈ xs, mayB x.e = true) (hri : RiseT xs) (hb : n ≤ 40) (hh1 : 1 ≤ half) (hh2 : half ≤ 1099511627776) (hw1 : -4398046511104 ≤ now) (hw2 : now ≤ 4398046511104) :
    Calls Tryd.prog 16 #[.slice A n c, .int .i64 half, .string p, .int .i64 now] w fun e w' => ∃ (A' : Option Addr) (n' c' : Nat) (out : List Ct), e = .returned (.slice A' n' c') ∧ out.length = n' ∧ n' ≤ 100000 ∧ RowIn w' w'.heap.size 2 A' n' (out.flatMap ctC) ∧ IsTaste xs half p now out ∧ Below w.heap.size w w' := by
  obtain ⟨w1, hw1e⟩ : ∃ w1, w.alloc (.cells #[] 9) = w1 := ⟨_, rfl⟩
  have HB1 : Hid (Below w.heap.size w w1) := Lib.hid (by rw [← hw1e]; exact (Below.refl _ _).alloc (Nat.le_refl _) _)
  have HO1 : Hid (w1.ownsRow w.heap.size 9 1 (.slice (some ⟨w.heap.size, 0, none⟩) 0 0) 0 []) := Lib.hid (by rw [← hw1e]; exact own_empty _ _ _)
  have HOW := Lib.hid (own_any w1 B A n c xl p hn (hr.below (HB1.out.mono hB)) (Nat.le_trans hB HB1.out.size) (by omega))
  have HDD := Lib.hid (DdsIs.own (p := p) hd)
  have HMAY : Hid (∀ r ∈ ownC xs p, mayB r.e = true) := Lib.hid (fun r hr => hm r (ownC_mem.1 hr).1)
  have HRI : Hid (∀ r ∈ ownC xs p, r.ts.Pairwise ltN ∧ r.ts.length ≤ 1000) := Lib.hid (fun r hr => hri r (ownC_mem.1 hr).1)
  have HND : Hid (NdT (ownC xs p)) := Lib.hid (fun r hr => ltN_nodup (HRI.out r hr).1)
  have HIT : Hid (∀ L, IsTaste xs half p now L ↔ L.Pairwise (fun x y => cmpCI x y < 0) ∧ ∀ x, x ∈ L ↔ 0 < x.n ∧ x.n = (skL half now (ownC xs p)).S x.key) := Lib.hid (fun L => Iff.rfl)
  have hol : (ownR xl p).length ≤ 40 := Nat.le_trans (ownR_len xl p) (by omega)
  obtain ⟨l, hl⟩ : ∃ l, ownC xs p = l := ⟨_, rfl⟩
  obtain ⟨ol, hole⟩ : ∃ ol, ownR xl p = ol := ⟨_, rfl⟩
  rw [hl] at HDD HMAY HRI HND HIT
  rw [hole] at HOW HDD hol
  clear hn hr hd hm hri hl hole
  go_enter Tryd.func16, Tryd.ntmps16
  go_wp2_with fail
  clear hw1e
  refine HOW.out.mono ?_
  rintro e w2 ⟨A2, N, c2, rfl, hn2, hnn, ho2, hb2⟩
  have HNL : Hid (l.length = N) := Lib.hid (by rw [← HDD.out.1, ← hn2])
  have HR2 := Lib.hid (RowIn.of_own ho2)
  have hN40 : N ≤ 40 := by omega
  have HB2 : Hid (Below w.heap.size w w2) := Lib.hid (HB1.out.trans (hb2.mono HB1.out.size))
  have HO2 : Hid (w2.ownsRow w.heap.size 9 1 (.slice (some ⟨w.heap.size, 0, none⟩) 0 0) 0 []) := Lib.hid (owns_kept HO1.out (below_kept (S := fun _ => False) hb2 (Nat.le_refl _)) (fun _ _ h => h))
  have HZ2 : Hid (w.heap.size ≤ w2.heap.size) := Lib.hid HB2.out.size
  have HTA : Hid (∀ (k : Nat) (x : Rw) (W : World), l[k]? = some x → Below w2.heap.size w2 W → ∃ rd, ol[k]? = some rd ∧ rd.e = x.e ∧ rd.n = x.ts.length ∧ RowIn W w.heap.size 1 rd.A rd.n (x.ts.map .string)) := Lib.hid (fun k x W hx hW => by
    obtain ⟨rd, h1, h2⟩ := HDD.out.at hx
    exact ⟨rd, h1, h2.1, h2.2.1, (RowIn.of_own h2.2.2).below (HB2.out.trans (hW.mono HB2.out.size))⟩)
  clear hn2 ho2 hb2 HOW HDD HO1 HB1
  go_wp2_with fail
  go_loopw [9, 27] (fun v i wr => ∃ (k m : Nat) (q : List ByteArray), k ≤ N ∧ m ≤ k * 1000 ∧ i = .int .i64 k ∧ Hid (q.length = m) ∧ Hid (AllT (l.take k) q) ∧ Hid (wr.ownsRow w.heap.size 9 1 v m (q.map .string)) ∧ Hid (Below w2.heap.size w2 wr)) (fun _ i _ => N - (intOf i).toNat)
  case atStart => exact ⟨0, 0, [], Nat.zero_le _, Nat.zero_le _, rfl, Lib.hid rfl, Lib.hid ⟨List.Pairwise.nil, fun y => by simp⟩, HO2, Lib.hid (Below.refl _ _)⟩
  case round =>
    clear HO2
    obtain ⟨k, m, q, hk, hmk, rfl, hql, hat, hrow, hbw⟩ := hrel
    obtain ⟨A5, c5, hq⟩ := own_shape hrow.out
    rw [hq] at hrow ⊢
    clear hq
    have hwz := hbw.out.size
    by_cases hlt : k < N
    · obtain ⟨x, hx⟩ : ∃ x, l[k]? = some x := ⟨l[k]'(by rw [HNL.out]; exact hlt), List.getElem?_eq_getElem _⟩
      have HX := Lib.hid hx
      obtain ⟨rd, hrd, hre, hrn, _⟩ := HTA.out k x w2 hx (Below.refl _ _)
      obtain ⟨g, o, rfl, hgB, hcl⟩ := rds_at HR2.out (by omega)
      obtain ⟨e0, e1, e2, e3, e4, e5, e6, e7, e8⟩ : RdAt wr g (o + k * 9) rd := (hcl k rd hrd).keep (fun j => hbw.out.cell (p := ⟨g, j, none⟩) hgB)
      have hk8 : (k : Int) < (N : Int) := by omega
      have hk9 : (0 : Int) ≤ (k : Int) := by omega
      obtain ⟨w3, hw3⟩ : ∃ w3, wr.alloc (.cells (rdAr rd) 43) = w3 := ⟨_, rfl⟩
      have HBX : Hid (Blk w3 wr.heap.size 43 (rdAr rd)) := Lib.hid (by rw [← hw3]; exact Blk.new _ _ _)
      have HB3 : Hid (Below w2.heap.size w2 w3) := Lib.hid (by rw [← hw3]; exact hbw.out.alloc hwz _)
      have HO3 : Hid (w3.ownsRow w.heap.size 9 1 (.slice A5 m c5) m (q.map .string)) := Lib.hid (by rw [← hw3]; exact hrow.out.alloc _)
      have HTR : Hid (∀ W, Below w2.heap.size w2 W → RowIn W w.heap.size 1 rd.A rd.n (x.ts.map .string)) := Lib.hid (fun W hW => by
        obtain ⟨rd', h1, _, _, h4⟩ := HTA.out k x W HX.out hW
        rw [hrd] at h1
        cases h1
        exact h4)
      have d8 : w3.cell? ⟨wr.heap.size, 8, none⟩ = some (.slice rd.A rd.n rd.c) := HBX.out.cell 8
      obtain ⟨M, hM⟩ : ∃ M, rd.n = M := ⟨_, rfl⟩
      have HML : Hid (x.ts.length = M) := Lib.hid (by rw [← hM, hrn])
      have hM1 : M ≤ 1000 := by rw [← HML.out]; exact (HRI.out x (List.mem_of_getElem? hx)).2
      have HTK : Hid (l.take (k + 1) = l.take k ++ [x]) := Lib.hid (take_snoc hx)
      unfold rdAr at hw3
      rw [hM] at HTR d8
      clear hcl hx hrd hre hrow
      rw [hM] at e8 hw3
      clear hM hrn
      go_wp2_with fail
      clear e0 e1 e2 e3 e4 e5 e6 e7 e8 d8 hw3 HBX
      go_loopw [9, 34] (fun v i wq => ∃ (j m : Nat) (q : List ByteArray), j ≤ M ∧ m ≤ k * 1000 + j ∧ i = .int .i64 j ∧ Hid (q.length = m) ∧ Hid (AllT (l.take k ++ [⟨x.e, x.ts.take j⟩]) q) ∧ Hid (wq.ownsRow w.heap.size 9 1 v m (q.map .string)) ∧ Hid (Below w2.heap.size w2 wq)) (fun _ i _ => M - (intOf i).toNat)
      case atStart =>
        refine ⟨0, m, q, Nat.zero_le _, by omega, rfl, hql, Lib.hid ⟨hat.out.1, fun y => ?_⟩, HO3, HB3⟩
        rw [hat.out.2]
        constructor
        · rintro ⟨z, h1, h2⟩; exact ⟨z, List.mem_append_left _ h1, h2⟩
        · rintro ⟨z, h1, h2⟩
          rcases List.mem_append.1 h1 with h1 | h1
          · exact ⟨z, h1, h2⟩
          · rw [List.mem_singleton] at h1; subst h1; simp at h2
      case round =>
        clear hql hat HO3 HB3 hbw hmk
        obtain ⟨j, m, q, hj, hmj, rfl, hql, hat, hrow, hbw⟩ := hrel
        obtain ⟨A6, c6, hq⟩ := own_shape hrow.out
        rw [hq] at hrow ⊢
        clear hq
        have hwz := hbw.out.size
        by_cases hlt2 : j < M
        · obtain ⟨tg, htg⟩ : ∃ tg, x.ts[j]? = some tg := ⟨x.ts[j]'(by rw [HML.out]; exact hlt2), List.getElem?_eq_getElem _⟩
          obtain ⟨gt, ot, hAt, hgt, hct⟩ := (HTR.out _ hbw.out).at (by omega)
          have t0 := hct j (.string tg) (by simp [htg])
          have HTS : Hid (x.ts.take (j + 1) = x.ts.take j ++ [tg]) := Lib.hid (take_snoc htg)
          have hj8 : (j : Int) < (M : Int) := by omega
          have hj9 : (0 : Int) ≤ (j : Int) := by omega
          have HPU : Hid (∀ W, W = wr → Calls Tryd.prog 40 #[.slice A6 m c6, .string tg] W fun e w' => ∃ (A' : Option Addr) (c' : Nat) (out : List ByteArray), e = .returned (.slice A' out.length c') ∧ w'.ownsRow w.heap.size 9 1 (.slice A' out.length c') out.length (out.map .string) ∧ (out.Pairwise ltN ∧ ∀ y, y ∈ out ↔ y ∈ q ∨ y = tg) ∧ out.length ≤ m + 1 ∧ Below W.heap.size W w') := Lib.hid (fun W hW => by
            subst hW
            exact rput_any _ A6 q m c6 tg w.heap.size hql.out hrow.out (by have := HZ2.out; omega) hat.out.1 (by omega))
          rw [hAt] at *
          clear htg hct hAt
          go_wp2_with fail
          refine (HPU.out _ rfl).mono ?_
          rintro e w8 ⟨A8, c8, out, rfl, ho8, ⟨hr8, hm8⟩, hl8, hb8⟩
          obtain ⟨m8, hm8e⟩ : ∃ m8, out.length = m8 := ⟨_, rfl⟩
          rw [hm8e] at ho8 hl8 ⊢
          have HO8 := Lib.hid ho8
          have HL8 := Lib.hid hm8e
          have HB8 : Hid (Below w2.heap.size w2 w8) := Lib.hid (hbw.out.trans (hb8.mono hwz))
          have HA8 : Hid (AllT (l.take k ++ [⟨x.e, x.ts.take (j + 1)⟩]) out) := Lib.hid ⟨hr8, fun y => by
            rw [hm8, hat.out.2, HTS.out]
            constructor
            · rintro (⟨z, h1, h2⟩ | rfl)
              · rcases List.mem_append.1 h1 with h1 | h1
                · exact ⟨z, List.mem_append_left _ h1, h2⟩
                · rw [List.mem_singleton] at h1
                  subst h1
                  exact ⟨⟨x.e, x.ts.take j ++ [tg]⟩, List.mem_append_right _ (by simp), List.mem_append_left _ h2⟩
              · exact ⟨⟨x.e, x.ts.take j ++ [y]⟩, List.mem_append_right _ (by simp), List.mem_append_right _ (by simp)⟩
            · rintro ⟨z, h1, h2⟩
              rcases List.mem_append.1 h1 with h1 | h1
              · exact Or.inl ⟨z, List.mem_append_left _ h1, h2⟩
              · rw [List.mem_singleton] at h1
                subst h1
                rcases List.mem_append.1 h2 with h2 | h2
                · exact Or.inl ⟨⟨x.e, x.ts.take j⟩, List.mem_append_right _ (by simp), h2⟩
                · exact Or.inr (by simpa using h2)⟩
          clear ho8 hr8 hm8 hb8 hm8e HPU
          go_wp2_with fail
          go_roundw
          case rel => exact ⟨j + 1, m8, out, by omega, by omega, by go_num, HL8, HA8, HO8, HB8⟩
          case measure => simp [intOf]; omega
        · obtain rfl : M = j := by omega
          have HAE : Hid (AllT (l.take (k + 1)) q) := Lib.hid (by
            rw [HTK.out]
            have h1 := hat.out
            rw [show x.ts.take M = x.ts by rw [← HML.out, List.take_length]] at h1
            exact h1)
          go_wp2_with fail
          go_roundw
          case rel => exact ⟨k + 1, m, q, by omega, by omega, by go_num, hql, HAE, hrow, hbw⟩
          case measure => simp [intOf]; omega
    · obtain rfl : N = k := by omega
      have htl : l.take N = l := by rw [← HNL.out, List.take_length]
      rw [htl] at hat
      clear htl hlt hk
      obtain ⟨w4, hw4⟩ : ∃ w4, wr.alloc (.cells #[] 45) = w4 := ⟨_, rfl⟩
      have HO4 : Hid (w4.ownsRow wr.heap.size 45 2 (.slice (some ⟨wr.heap.size, 0, none⟩) 0 0) 0 []) := Lib.hid (by rw [← hw4]; exact own_empty _ _ _)
      have HB4 : Hid (Below wr.heap.size wr w4) := Lib.hid (by rw [← hw4]; exact (Below.refl _ _).alloc (Nat.le_refl _) _)
      have HBR : Hid (∀ W, Below wr.heap.size wr W → Below w2.heap.size w2 W ∧ RowIn W wr.heap.size 1 A5 m (q.map .string) ∧ wr.heap.size ≤ W.heap.size) := Lib.hid (fun W hW => ⟨hbw.out.trans (hW.mono hwz), (RowIn.of_own hrow.out).below hW, hW.size⟩)
      have HQN : Hid (q.Nodup) := Lib.hid (ltN_nodup hat.out.1)
      obtain ⟨w9, hw9⟩ : ∃ w9, wr = w9 := ⟨_, rfl⟩
      rw [hw9] at hw4 HO4 HB4 HBR hwz ⊢
      have hmb : m ≤ 40000 := by omega
      clear hw9 hrow hbw
      go_wp2_with fail
      clear hw4
      go_loopw [15, 46] (fun v i wr => ∃ (j u : Nat) (out : List Ct), j ≤ m ∧ u ≤ j ∧ i = .int .i64 j ∧ Hid (out.length = u) ∧ Hid (CtsOf (skL half now l).S (q.take j) out) ∧ Hid (wr.ownsRow w9.heap.size 45 2 v u (out.flatMap ctC)) ∧ Hid (Below w9.heap.size w9 wr)) (fun _ i _ => m - (intOf i).toNat)
      case atStart => exact ⟨0, 0, [], Nat.zero_le _, Nat.le_refl _, rfl, Lib.hid rfl, Lib.hid ⟨List.Pairwise.nil, fun c => by simp⟩, HO4, HB4⟩
      case round =>
        clear HO4 HB4
        obtain ⟨j, u, out, hj, huj, rfl, hul, hco, hrow, hbw⟩ := hrel
        obtain ⟨A6, c6, hq⟩ := own_shape hrow.out
        rw [hq] at hrow ⊢
        clear hq
        have hwz9 := hbw.out.size
        by_cases hlt : j < m
        · obtain ⟨tg, htg⟩ : ∃ tg, q[j]? = some tg := ⟨q[j]'(by rw [hql.out]; exact hlt), List.getElem?_eq_getElem _⟩
          obtain ⟨gt, ot, hAt, hgt, hct⟩ := (HBR.out _ hbw.out).2.1.at (by omega)
          have t0 := hct j (.string tg) (by simp [htg])
          have HTS : Hid (q.take (j + 1) = q.take j ++ [tg]) := Lib.hid (take_snoc htg)
          have HNI : Hid (tg ∉ q.take j) := Lib.hid (fun hi => by
            obtain ⟨i, hi⟩ := List.mem_iff_getElem?.1 hi
            rw [List.getElem?_take] at hi
            split at hi
            · rename_i hij
              exact absurd (ltN_irr tg) (not_not_intro (rise_at hat.out.1 hij hi htg))
            · cases hi)
          have hj8 : (j : Int) < (m : Int) := by omega
          have hj9 : (0 : Int) ≤ (j : Int) := by omega
          clear htg hct
          subst hAt
          go_wp2_with fail
          clear t0
          go_loopw [18, 52] (fun v i wq => ∃ (k : Nat) (z : Int), k ≤ N ∧ 0 ≤ z ∧ z ≤ k * 5242880 ∧ v = .int .i64 z ∧ i = .int .i64 k ∧ Hid ((skL half now (l.take k)).S tg = z) ∧ Hid (wq.ownsRow w9.heap.size 45 2 (.slice A6 u c6) u (out.flatMap ctC)) ∧ Hid (Below w9.heap.size w9 wq)) (fun _ i _ => N - (intOf i).toNat)
          case atStart => exact ⟨0, 0, Nat.zero_le _, by omega, by omega, rfl, rfl, Lib.hid rfl, hrow, hbw⟩
          case round =>
            clear hrow hbw hwz9
            obtain ⟨k, z, hk, hz0, hzk, rfl, rfl, hsum, hrow, hbw⟩ := hrel
            have hwz9 := hbw.out.size
            by_cases hlt2 : k < N
            · obtain ⟨x, hx⟩ : ∃ x, l[k]? = some x := ⟨l[k]'(by rw [HNL.out]; exact hlt2), List.getElem?_eq_getElem _⟩
              have HX := Lib.hid hx
              obtain ⟨rd, hrd, hre, hrn, _⟩ := HTA.out k x w2 hx (Below.refl _ _)
              obtain ⟨g, o, rfl, hgB, hcl⟩ := rds_at HR2.out (by omega)
              have HBw2 := Lib.hid (HBR.out _ hbw.out).1
              obtain ⟨e0, e1, e2, e3, e4, e5, e6, e7, e8⟩ : RdAt wr g (o + k * 9) rd := (hcl k rd hrd).keep (fun j => HBw2.out.cell (p := ⟨g, j, none⟩) hgB)
              have hk8 : (k : Int) < (N : Int) := by omega
              have hk9 : (0 : Int) ≤ (k : Int) := by omega
              obtain ⟨w3, hw3⟩ : ∃ w3, wr.alloc (.cells (rdAr rd) 43) = w3 := ⟨_, rfl⟩
              have HBX : Hid (Blk w3 wr.heap.size 43 (rdAr rd)) := Lib.hid (by rw [← hw3]; exact Blk.new _ _ _)
              have HB3 : Hid (Below w9.heap.size w9 w3) := Lib.hid (by rw [← hw3]; exact hbw.out.alloc hwz9 _)
              have HO3 : Hid (w3.ownsRow w9.heap.size 45 2 (.slice A6 u c6) u (out.flatMap ctC)) := Lib.hid (by rw [← hw3]; exact hrow.out.alloc _)
              have d8 : w3.cell? ⟨wr.heap.size, 8, none⟩ = some (.slice rd.A rd.n rd.c) := HBX.out.cell 8
              have HTR : Hid (RowIn w3 w.heap.size 1 rd.A rd.n (x.ts.map .string)) := Lib.hid (by
                obtain ⟨rd', h1, _, _, h4⟩ := HTA.out k x w3 HX.out (HBR.out _ HB3.out).1
                rw [hrd] at h1
                cases h1
                exact h4)
              have HM1 : Hid (x.ts.length ≤ 1000) := Lib.hid (HRI.out x (List.mem_of_getElem? hx)).2
              have HIN : Hid (Calls Tryd.prog 48 #[.slice rd.A rd.n rd.c, .string tg] w3 fun e w' => e = .returned (.bool (memB tg x.ts)) ∧ w3 = w') := Lib.hid (rin_any w3 w.heap.size rd.A x.ts rd.n rd.c tg hrn.symm HTR.out (by have := HM1.out; omega))
              have HTK : Hid (l.take (k + 1) = l.take k ++ [x]) := Lib.hid (take_snoc hx)
              have HMX := Lib.hid (HMAY.out x (List.mem_of_getElem? hx))
              have HSS : Hid ((skL half now (l.take (k + 1))).S tg = z + giv half now tg x) := Lib.hid (by
                rw [HTK.out, sum_snoc (fun r hr => HND.out r (by rw [← HTK.out] at hr; exact List.mem_of_mem_take hr)), hsum.out])
              have HGB := Lib.hid (giv_bd (half := half) (now := now) (t := tg) HMX.out)
              have HRE := Lib.hid hre
              obtain ⟨tb1, tb2⟩ : 0 ≤ rd.e.tick ∧ rd.e.tick ≤ 1099511627776 := by rw [hre]; exact may_tick HMX.out
              unfold rdAr at hw3
              clear hcl hx hrd hre hrn
              cases hmb2 : memB tg x.ts
              · have HS1 : Hid ((skL half now (l.take (k + 1))).S tg = z) := Lib.hid (by rw [HSS.out, giv_out hmb2, Int.add_zero])
                rw [hmb2] at HIN
                clear HSS HGB HMX
                go_wp2_with fail
                refine HIN.out.mono ?_
                rintro e w5 ⟨rfl, rfl⟩
                go_wp2_with fail
                go_roundw
                case rel => exact ⟨k + 1, z, by omega, hz0, by omega, rfl, by go_num, HS1, HO3, HB3⟩
                case measure => simp [intOf]; omega
              · have HGE : Hid (giv half now tg x = worthP rd.e * wgtP (now - rd.e.tick) half) := Lib.hid (by rw [giv_in hmb2, HRE.out])
                rw [HGE.out] at HSS HGB
                rw [hmb2] at HIN
                have HSC : Hid (∀ W, Below w3.heap.size w3 W → RdAt W wr.heap.size 0 rd) := Lib.hid (fun W hW => by
                  have e1 := HBX.out.kept (below_kept (S := fun _ => False) hW (Nat.le_refl _)) (fun h => h)
                  exact ⟨e1.cell 0, e1.cell 1, e1.cell 2, e1.cell 3, e1.cell 4, e1.cell 5, e1.cell 6, e1.cell 7, e1.cell 8⟩)
                have HWO := Lib.hid (rworth_any rd.e w3.drew)
                have HWG : Hid (∀ W, Calls Tryd.prog 50 #[.int .i64 (now - rd.e.tick), .int .i64 half] W fun e w' => e = .returned (.int .i64 (wgtP (now - rd.e.tick) half)) ∧ W = w') := Lib.hid (fun W => rweight_any (now - rd.e.tick) half W hh1 hh2 (by omega) (by omega))
                have hwsub : IntKind.i64.wrap (now - rd.e.tick) = now - rd.e.tick := IntWalk.i64_in _ (by omega)
                have HS0 : Hid (Below w3.heap.size w3 w3.drew) := Lib.hid (below_drew (Below.refl _ _))
                unfold evA at HWO
                obtain ⟨wv, hwv⟩ : ∃ wv, worthP rd.e = wv := ⟨_, rfl⟩
                obtain ⟨gv, hgv⟩ : ∃ gv, wgtP (now - rd.e.tick) half = gv := ⟨_, rfl⟩
                rw [hwv] at HWO HGB HSS
                rw [hgv] at HWG HGB HSS
                obtain ⟨nv, hnv⟩ : ∃ nv, wv * gv = nv := ⟨_, rfl⟩
                rw [hnv] at HGB HSS
                obtain ⟨nb1, nb2⟩ := HGB.out
                have hwmul : IntKind.i64.wrap (wv * gv) = nv := by rw [hnv]; exact IntWalk.i64_in _ (by omega)
                have hwadd : IntKind.i64.wrap (z + nv) = z + nv := IntWalk.i64_in _ (by omega)
                clear hwv hgv hnv HGE HGB HRE HMX hmb2
                go_wp2_with fail
                refine HIN.out.mono ?_
                rintro e w5 ⟨rfl, rfl⟩
                clear HIN d8
                go_wp2_with fail
                refine wp_plan (fun W => Below w3.heap.size w3 W) [(0, false), (1, false), (2, false), (4, false), (5, false), (6, false), (7, false), (8, false), (9, false), (3, true), (10, true), (11, false), (12, false), (13, false)] (by kernel_rfl) (by kernel_rfl) HS0.out ?_
                simp only [planL, List.getElem?_cons_zero, List.getElem?_cons_succ]
                repeat (first | (refine plan_on _ (by rfl) (fun W hW => by (obtain ⟨x0, x1, x2, x3, x4, x5, x6, x7, x8⟩ := HSC.out W hW; go_simp; try with_reducible rfl)) ?_; simp only [Act.put, List.setIfInBounds_toArray, List.set_cons_zero, List.set_cons_succ]) | (refine plan_off (by rfl) ?_; simp only [Act.put, List.setIfInBounds_toArray, List.set_cons_zero, List.set_cons_succ]))
                refine plan_turn ?_
                go_wp2_with fail
                refine HWO.out.mono ?_
                rintro e w6 ⟨rfl, hb6⟩
                have HB36 : Hid (Below w3.heap.size w3 w6) := Lib.hid (HS0.out.trans hb6)
                clear hb6 HWO
                go_wp2_with fail
                refine ⟨HB36.out, ?_⟩
                repeat (first | (refine plan_on _ (by rfl) (fun W hW => by (obtain ⟨x0, x1, x2, x3, x4, x5, x6, x7, x8⟩ := HSC.out W hW; go_simp; try with_reducible rfl)) ?_; simp only [Act.put, List.setIfInBounds_toArray, List.set_cons_zero, List.set_cons_succ]) | (refine plan_off (by rfl) ?_; simp only [Act.put, List.setIfInBounds_toArray, List.set_cons_zero, List.set_cons_succ]))
                refine plan_turn ?_
                go_wp2_with fail
                refine (HWG.out _).mono ?_
                rintro e w7 ⟨rfl, rfl⟩
                go_wp2_with fail
                refine ⟨HB36.out, ?_⟩
                repeat (first | (refine plan_on _ (by rfl) (fun W hW => by (obtain ⟨x0, x1, x2, x3, x4, x5, x6, x7, x8⟩ := HSC.out W hW; go_simp; try with_reducible rfl)) ?_; simp only [Act.put, List.setIfInBounds_toArray, List.set_cons_zero, List.set_cons_succ]) | (refine plan_off (by rfl) ?_; simp only [Act.put, List.setIfInBounds_toArray, List.set_cons_zero, List.set_cons_succ]))
                refine plan_done ?_
                have HB6 : Hid (Below w9.heap.size w9 w6) := Lib.hid (HB3.out.trans (HB36.out.mono HB3.out.size))
                have HO6 : Hid (w6.ownsRow w9.heap.size 45 2 (.slice A6 u c6) u (out.flatMap ctC)) := Lib.hid (owns_kept HO3.out (below_kept (S := fun _ => False) HB36.out (Nat.le_refl _)) (fun _ _ h => h))
                clear HSC HWG HBX hw3 e0 e1 e2 e3 e4 e5 e6 e7 e8
                go_wp2_with fail
                go_roundw
                case rel => exact ⟨k + 1, z + nv, by omega, by omega, by omega, rfl, by go_num, HSS, HO6, HB6⟩
                case measure => simp [intOf]; omega
            · obtain rfl : N = k := by omega
              have htl : l.take N = l := by rw [← HNL.out, List.take_length]
              rw [htl] at hsum
              clear htl hlt2 hk
              by_cases hpz : 0 < z
              · have HCP : Hid (Calls Tryd.prog 51 #[.slice A6 u c6, .agg #[.string tg, .int .i64 z]] wr fun e w' => ∃ (A' : Option Addr) (n' c' : Nat) (out' : List Ct), e = .returned (.slice A' n' c') ∧ out'.length = n' ∧ n' ≤ u + 1 ∧ w'.ownsRow wr.heap.size 45 2 (.slice A' n' c') n' (out'.flatMap ctC) ∧ (out'.Pairwise ltC ∧ ∀ y, y ∈ out' ↔ y ∈ out ∨ y = ⟨tg, z⟩) ∧ Below wr.heap.size wr w') := Lib.hid (cput_any wr wr.heap.size A6 u c6 out ⟨tg, z⟩ hul.out (RowIn.of_own hrow.out) (Nat.le_refl _) hco.out.1 (hco.out.off HNI.out z) (by omega))
                have HSP : Hid (0 < (skL half now l).S tg) := Lib.hid (by rw [hsum.out]; exact hpz)
                clear hz0
                go_wp2_with fail
                refine HCP.out.mono ?_
                rintro e w8 ⟨A8, n8, c8, out8, rfl, hl8, hn8, ho8, hm8, hb8⟩
                have HO8 : Hid (w8.ownsRow w9.heap.size 45 2 (.slice A8 n8 c8) n8 (out8.flatMap ctC)) := Lib.hid (own_mono ho8 hwz9)
                have HB8 : Hid (Below w9.heap.size w9 w8) := Lib.hid (hbw.out.trans (hb8.mono hwz9))
                have HC8 : Hid (CtsOf (skL half now l).S (q.take (j + 1)) out8) := Lib.hid (by
                  rw [HTS.out]
                  refine hco.out.put HSP.out ?_
                  rw [hsum.out]
                  exact hm8)
                have HL8 := Lib.hid hl8
                clear ho8 hm8 hb8 hl8 HCP
                go_wp2_with fail
                go_roundw
                case rel => exact ⟨j + 1, n8, out8, by omega, by omega, by go_num, HL8, HC8, HO8, HB8⟩
                case measure => simp [intOf]; omega
              · have dz : decide (0 < z) = false := decide_eq_false hpz
                have HC8 : Hid (CtsOf (skL half now l).S (q.take (j + 1)) out) := Lib.hid (by
                  rw [HTS.out]
                  exact hco.out.skip (by rw [hsum.out]; exact hpz))
                clear hpz
                go_wp2_with fail
                go_roundw
                case rel => exact ⟨j + 1, u, out, by omega, by omega, by go_num, hul, HC8, hrow, hbw⟩
                case measure => simp [intOf]; omega
        · obtain rfl : m = j := by omega
          have htl : q.take m = q := by rw [← hql.out, List.take_length]
          rw [htl] at hco
          have HFT : Hid (IsTaste xs half p now out) := Lib.hid ((HIT.out out).2 ⟨hco.out.1, fun c => by
            rw [hco.out.2]
            constructor
            · rintro ⟨h1, h2, _⟩; exact ⟨h1, h2⟩
            · rintro ⟨h1, h2⟩
              refine ⟨h1, h2, ?_⟩
              rw [hat.out.2]
              apply Classical.byContradiction
              intro hno
              rw [sum_zero HND.out (fun r hr => giv_out (by
                cases e : memB c.key r.ts
                · rfl
                · exact absurd ⟨r, hr, (memB_iff _ _).1 e⟩ hno))] at h2
              omega⟩)
          have HBF : Hid (Below w.heap.size w wr) := Lib.hid (HB2.out.trans ((HBR.out _ hbw.out).1.mono HB2.out.size))
          go_wp2_with fail
          go_ret
          exact ⟨A6, u, c6, out, rfl, hul.out, by omega, RowIn.of_own hrow.out, HFT.out, HBF.out⟩

end Go.Proofs.YtnkglbiakjnfjaaDoor
