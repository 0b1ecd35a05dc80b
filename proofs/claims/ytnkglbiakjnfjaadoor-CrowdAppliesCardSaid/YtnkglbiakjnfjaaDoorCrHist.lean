/- A person's history; the document's People, Makers; the rows compared. -/
import Derived.Test.YtnkglbiakjnfjaaDoorCrMk
namespace Go.Proofs.YtnkglbiakjnfjaaDoor
open Go.Shelf Go.RowKit Go.Maps Go.Lib Go.Sort
set_option linter.unusedVariables false

set_option maxHeartbeats 2000000 in
set_option maxRecDepth 100000 in
theorem history_any (cb : Nat) (half : Int) (U : Nat → Prop) (rs : List Rw) (p : ByteArray) (w : World) (h : CrAt w cb half U rs) (hp : p.size ≤ maxLen) (hb : rs.length ≤ 1000) :
    Calls Tryd.prog 33 #[.pointer (some ⟨cb, 0, none⟩), .string p] w fun e w' => ∃ (A : Option Addr) (n c : Nat), e = .returned (.slice A n c) ∧ n = (ownC rs p).length ∧ n ≤ 1000 ∧ RowIn w' w'.heap.size 8 A n ((evsR (ownC rs p)).flatMap evC) ∧ Below w.heap.size w w' := by
  obtain ⟨b, last, G, R, h⟩ := h
  obtain ⟨A5, c5, hgr, how, hold⟩ := h.ppl.row p
  have HREL := Lib.hid (h.rel p)
  have hol : (ownC rs p).length ≤ 1000 := Nat.le_trans (ownC_len rs p) hb
  obtain ⟨l, hl⟩ : ∃ l, ownC rs p = l := ⟨_, rfl⟩
  obtain ⟨rl, hrl⟩ : ∃ rl, R p = rl := ⟨_, rfl⟩
  rw [hl] at HREL hol ⊢
  rw [hrl] at hgr how hold HREL
  obtain ⟨N, hN⟩ : ∃ N, rl.length = N := ⟨_, rfl⟩
  have HNL : Hid (l.length = N) := Lib.hid (by rw [← hN, HREL.out.1])
  rw [HNL.out] at hol
  rw [hN] at hgr how hold
  have HRO := Lib.hid (RowIn.of_own how)
  have HGR := Lib.hid hgr
  have HMP := Lib.hid h.ppl.map
  have c10 : w.cell? ⟨cb, 10, none⟩ = some (.map (some b.pb)) := h.blk.cell 10
  have HGV : Hid ((mapG G (.string p.data.toList)).getD (.slice none 0 0) = .slice A5 N c5) := Lib.hid (by rw [mapG_at]; exact HGR.out)
  obtain ⟨i1, hi1, hy0, hy1, hy2⟩ := info_parts ev_info
  clear h how hold hgr hl hrl hN
  go_enter Tryd.func33, Tryd.ntmps33
  go_wp2_with (first
    | (at_lookup; refine wpList_lookM _ rfl _ _ 75 rfl 9 74 (string_keyed Tryd.underlying9) Tryd.underlying75 okSl _ (zeroDds _) rfl b.pb _ _ rfl HMP.out _ _ rfl (WideMaps.keyOf_string_mk Tryd.underlying9 hp) _ HGV.out ?_)
    | fail)
  clear c10
  go_loopw [5, 15] (fun v i wr => ∃ k : Nat, k ≤ N ∧ i = .int .i64 k ∧ Hid (wr.ownsRow w.heap.size 40 8 v k ((evsR (l.take k)).flatMap evC)) ∧ Hid (Below w.heap.size w wr)) (fun _ i _ => N - (intOf i).toNat)
  case atStart => exact ⟨0, Nat.zero_le _, rfl, Lib.hid (own_nil _ _ _ _), Lib.hid (Below.refl _ _)⟩
  case round =>
    clear HGV
    obtain ⟨k, hk, rfl, hrow, hbw⟩ := hrel
    obtain ⟨A6, c6, hq⟩ := own_shape hrow.out
    rw [hq] at hrow ⊢
    clear hq
    have hwz := hbw.out.size
    by_cases hlt : k < N
    · obtain ⟨x, hx⟩ : ∃ x, l[k]? = some x := ⟨l[k]'(by rw [HNL.out]; exact hlt), List.getElem?_eq_getElem _⟩
      obtain ⟨rd, hrd, hdd⟩ := HREL.out.at hx
      obtain ⟨g, o, rfl, hgB, hcl⟩ := rds_at HRO.out (by omega)
      obtain ⟨e0, e1, e2, e3, e4, e5, e6, e7, e8⟩ : RdAt wr g (o + k * 9) rd := (hcl k rd hrd).keep (fun j => hbw.out.cell (p := ⟨g, j, none⟩) hgB)
      have HTK : Hid ((evsR (l.take (k + 1))).flatMap evC = (evsR (l.take k)).flatMap evC ++ evC rd.e) := Lib.hid (by
        rw [take_snoc hx]
        unfold evsR
        rw [List.map_append, List.flatMap_append]
        simp [hdd.1])
      have hk8 : (k : Int) < (N : Int) := by omega
      have hk9 : (0 : Int) ≤ (k : Int) := by omega
      obtain ⟨w3, hw3⟩ : ∃ w3, wr.alloc (.cells (rdAr rd) 82) = w3 := ⟨_, rfl⟩
      have HBX : Hid (Blk w3 wr.heap.size 82 (rdAr rd)) := Lib.hid (by rw [← hw3]; exact Blk.new _ _ _)
      have HB3 : Hid (Below w.heap.size w w3) := Lib.hid (by rw [← hw3]; exact hbw.out.alloc hwz _)
      have HO3 : Hid (w3.ownsRow w.heap.size 40 8 (.slice A6 k c6) k ((evsR (l.take k)).flatMap evC)) := Lib.hid (by rw [← hw3]; exact hrow.out.alloc _)
      obtain ⟨x0, x1, x2, x3, x4, x5, x6, x7, x8⟩ := rdAr_at HBX.out
      have hz3 := HB3.out.size
      unfold rdAr at hw3
      clear hcl hx hrd hdd HBX
      go_wp2_with (first
        | (at_builtin; refine wpList_append_row _ rfl _ _ 64 rfl w.heap.size 40 i1 _ 8 _ Tryd.underlying64 hi1 hy0 hy1 hy2 rfl (by omega) (.slice A6 k c6) k _ rfl (HO3.out.alloc _) (w3.heap.size + 1) (some ⟨w3.heap.size, 0, none⟩) 1 1 (evC rd.e) rfl (one_ev w3 rd.e _) (fun h => by cases h) (fun u hu => evC_one [rd.e] u (by simpa using hu)) (by unfold maxLen; omega) (by omega) (by simp; omega) ?_; intro v7 w7 ho7 hg7 hv7))
      go_roundw
      case rel =>
        refine ⟨k + 1, by omega, by go_num, Lib.hid ?_, Lib.hid ((HB3.out.alloc hz3 _).grown hg7 (by simp; omega) (fun j hj => (HO3.out.lt _ hj).1))⟩
        rw [HTK.out]
        exact ho7
      case measure => simp [intOf]; omega
    · obtain rfl : N = k := by omega
      have hta : l.take N = l := by rw [← HNL.out, List.take_length]
      rw [hta] at hrow
      go_wp2_with fail
      go_ret
      exact ⟨A6, N, c6, rfl, HNL.out.symm, hol, RowIn.of_own hrow.out, hbw.out⟩

/-- An event lies at off in block b. -/
def EvLt (w : World) (b off : Nat) (e : Ev) : Prop := w.cell? ⟨b, off, none⟩ = some (.string e.src) ∧ w.cell? ⟨b, off + 1, none⟩ = some (.int .i64 e.num) ∧ w.cell? ⟨b, off + 2, none⟩ = some (.int .i64 e.tick) ∧ w.cell? ⟨b, off + 3, none⟩ = some (.int .i64 e.kind) ∧ w.cell? ⟨b, off + 4, none⟩ = some (.string e.person) ∧ w.cell? ⟨b, off + 5, none⟩ = some (.string e.item) ∧ w.cell? ⟨b, off + 6, none⟩ = some (.int .i64 e.value) ∧ w.cell? ⟨b, off + 7, none⟩ = some (.string e.text)
theorem evsl_at {w : World} {B : Nat} {A : Option Addr} {n : Nat} {l : List Ev} (h : RowIn w B 8 A n (l.flatMap evC)) (hn : 0 < n) : ∃ b off, A = some ⟨b, off, none⟩ ∧ b < B ∧ ∀ i x, l[i]? = some x → EvLt w b (off + i * 8) x := by
  obtain ⟨b, off, hA, hb, hc⟩ := h.at hn
  refine ⟨b, off, hA, hb, fun i x hx => ?_⟩
  have g := fun j (hj : j < 8) => flat_get evC 8 (fun _ => rfl) l i j x hx hj
  have k := fun j (hj : j < 8) u (hu : (evC x)[j]? = some u) => hc (i * 8 + j) u ((g j hj).trans hu)
  simp only [← Nat.add_assoc] at k
  exact ⟨k 0 (by omega) _ rfl, k 1 (by omega) _ rfl, k 2 (by omega) _ rfl, k 3 (by omega) _ rfl, k 4 (by omega) _ rfl, k 5 (by omega) _ rfl, k 6 (by omega) _ rfl, k 7 (by omega) _ rfl⟩

set_option maxHeartbeats 4000000 in
set_option maxRecDepth 100000 in
theorem same_any (w : World) (B B' : Nat) (A A' : Option Addr) (xl : List Rd) (n c c' : Nat) (hn : xl.length = n) (h1 : RowIn w B 8 A n ((evsD xl).flatMap evC)) (h2 : RowIn w B' 9 A' n (xl.flatMap rdC)) (hb : n ≤ 1000000) :
    Calls Tryd.prog 32 #[.slice A n c, .slice A' n c'] w fun e w' => e = .returned (.bool true) ∧ Below w.heap.size w w' := by
  have HN := Lib.hid hn
  have H1 := Lib.hid h1
  have H2 := Lib.hid h2
  have qn : ((n : Int) != (n : Int)) = false := by simp
  clear hn h1 h2
  go_enter Tryd.func32, Tryd.ntmps32
  go_wp2_with fail
  go_loopw [13] (fun i wr => ∃ k : Nat, k ≤ n ∧ i = .int .i64 k ∧ Hid (∃ q, wr = w.drewN q)) (fun i _ => n - (intOf i).toNat)
  case atStart => exact ⟨0, Nat.zero_le _, rfl, Lib.hid ⟨0, rfl⟩⟩
  case round =>
    obtain ⟨k, hk, rfl, hbw⟩ := hrel
    obtain ⟨q, hq⟩ := hbw.out
    by_cases hlt : k < n
    · obtain ⟨x, hx⟩ : ∃ x, xl[k]? = some x := ⟨xl[k]'(by rw [HN.out]; exact hlt), List.getElem?_eq_getElem _⟩
      obtain ⟨g, o, rfl, _, hc⟩ := evsl_at H1.out (by omega)
      obtain ⟨g2, o2, rfl, _, hc2⟩ := rds_at H2.out (by omega)
      obtain ⟨e0, e1, e2, e3, e4, e5, e6, e7⟩ : EvLt wr g (o + k * 8) x.e := by rw [hq]; exact hc k x.e (by unfold evsD; simp [hx])
      obtain ⟨d0, d1, d2, d3, d4, d5, d6, d7, d8⟩ : RdAt wr g2 (o2 + k * 9) x := by rw [hq]; exact hc2 k x hx
      have hk8 : (k : Int) < (n : Int) := by omega
      have hk9 : (0 : Int) ≤ (k : Int) := by omega
      clear hx hc hc2 hq
      go_wp2_with fail
      go_quiet (fail)
      have HQ : Hid (∃ q, wr.drewN nq = w.drewN q) := Lib.hid (by obtain ⟨q, hq⟩ := hbw.out; exact ⟨q + nq, by rw [hq, World.drewN_drewN]⟩)
      go_wp2_with fail
      go_roundw
      case rel => exact ⟨k + 1, by omega, by go_num, HQ⟩
      case measure => simp [intOf]; omega
    · have HB : Hid (Below w.heap.size w wr) := Lib.hid (by rw [hq]; exact below_drewN (Below.refl _ _) _)
      clear hq
      go_wp2_with fail
      go_ret
      exact ⟨rfl, HB.out⟩

set_option maxHeartbeats 2000000 in
set_option maxRecDepth 100000 in
theorem same16_any (w : World) (B B' : Nat) (A A' : Option Addr) (L : List ByteArray) (n c c' : Nat) (hn : L.length = n) (h1 : RowIn w B 1 A n (L.map .string)) (h2 : RowIn w B' 1 A' n (L.map .string)) (hb : n ≤ 1000000) :
    Calls Tryd.prog 29 #[.slice A n c, .slice A' n c'] w fun e w' => e = .returned (.bool true) ∧ Below w.heap.size w w' := by
  have HN := Lib.hid hn
  have H1 := Lib.hid h1
  have H2 := Lib.hid h2
  have qn : ((n : Int) != (n : Int)) = false := by simp
  clear hn h1 h2
  go_enter Tryd.func29, Tryd.ntmps29
  go_wp2_with fail
  go_loopw [5] (fun i wr => ∃ k : Nat, k ≤ n ∧ i = .int .i64 k ∧ Hid (∃ q, wr = w.drewN q)) (fun i _ => n - (intOf i).toNat)
  case atStart => exact ⟨0, Nat.zero_le _, rfl, Lib.hid ⟨0, rfl⟩⟩
  case round =>
    obtain ⟨k, hk, rfl, hbw⟩ := hrel
    obtain ⟨q, hq⟩ := hbw.out
    by_cases hlt : k < n
    · obtain ⟨x, hx⟩ : ∃ x, L[k]? = some x := ⟨L[k]'(by rw [HN.out]; exact hlt), List.getElem?_eq_getElem _⟩
      obtain ⟨g, o, rfl, _, hc⟩ := H1.out.at (by omega)
      obtain ⟨g2, o2, rfl, _, hc2⟩ := H2.out.at (by omega)
      have e0 : wr.cell? ⟨g, o + k, none⟩ = some (.string x) := by rw [hq]; exact hc k _ (by simp [hx])
      have d0 : wr.cell? ⟨g2, o2 + k, none⟩ = some (.string x) := by rw [hq]; exact hc2 k _ (by simp [hx])
      have hk8 : (k : Int) < (n : Int) := by omega
      have hk9 : (0 : Int) ≤ (k : Int) := by omega
      clear hx hc hc2 hq
      go_wp2_with fail
      go_quiet (fail)
      have HQ : Hid (∃ q, wr.drewN nq = w.drewN q) := Lib.hid (by obtain ⟨q, hq⟩ := hbw.out; exact ⟨q + nq, by rw [hq, World.drewN_drewN]⟩)
      go_wp2_with fail
      go_roundw
      case rel => exact ⟨k + 1, by omega, by go_num, HQ⟩
      case measure => simp [intOf]; omega
    · have HB : Hid (Below w.heap.size w wr) := Lib.hid (by rw [hq]; exact below_drewN (Below.refl _ _) _)
      clear hq
      go_wp2_with fail
      go_ret
      exact ⟨rfl, HB.out⟩

set_option maxHeartbeats 2000000 in
set_option maxRecDepth 100000 in
theorem rpeople_any (w : World) (B : Nat) (A : Option Addr) (n c : Nat) (xl : List Rd) (hn : xl.length = n) (hr : RowIn w B 9 A n (xl.flatMap rdC)) (hB : B ≤ w.heap.size) (hb : n ≤ 1000) :
    Calls Tryd.prog 31 #[.slice A n c] w fun e w' => ∃ (A' : Option Addr) (m c' : Nat) (out : List ByteArray), e = .returned (.slice A' m c') ∧ out.length = m ∧ IsNames (fun y => xl.any fun r => decide (r.e.person = y)) out ∧ w'.ownsRow w.heap.size 9 1 (.slice A' m c') m (out.map .string) ∧ m ≤ n ∧ Below w.heap.size w w' := by
  have HN := Lib.hid hn
  have HR := Lib.hid hr
  obtain ⟨w1, hw1⟩ : ∃ w1, w.alloc (.cells #[] 9) = w1 := ⟨_, rfl⟩
  have HO1 : Hid (w1.ownsRow w.heap.size 9 1 (.slice (some ⟨w.heap.size, 0, none⟩) 0 0) 0 []) := Lib.hid (by rw [← hw1]; exact own_empty _ _ _)
  have HB1 : Hid (Below w.heap.size w w1) := Lib.hid (by rw [← hw1]; exact (Below.refl _ _).alloc (Nat.le_refl _) _)
  clear hn hr
  go_enter Tryd.func31, Tryd.ntmps31
  go_wp2_with fail
  clear hw1
  go_loopw [3, 4] (fun v i wr => ∃ (k m : Nat) (out : List ByteArray), k ≤ n ∧ m ≤ k ∧ i = .int .i64 k ∧ Hid (out.length = m) ∧ Hid (IsNames (fun y => (xl.take k).any fun r => decide (r.e.person = y)) out) ∧ Hid (wr.ownsRow w.heap.size 9 1 v m (out.map .string)) ∧ Hid (Below w.heap.size w wr)) (fun _ i _ => n - (intOf i).toNat)
  case atStart => exact ⟨0, 0, [], Nat.zero_le _, Nat.le_refl _, rfl, Lib.hid rfl, Lib.hid ⟨List.Pairwise.nil, fun y => by simp⟩, HO1, HB1⟩
  case round =>
    clear HO1 HB1
    obtain ⟨k, m, out, hk, hmk, rfl, hm, hnm, hrow, hbw⟩ := hrel
    obtain ⟨A5, c5, hq⟩ := own_shape hrow.out
    rw [hq] at hrow ⊢
    clear hq
    have hwz := hbw.out.size
    by_cases hlt : k < n
    · obtain ⟨x, hx⟩ : ∃ x, xl[k]? = some x := ⟨xl[k]'(by rw [HN.out]; exact hlt), List.getElem?_eq_getElem _⟩
      have HTK : Hid (xl.take (k + 1) = xl.take k ++ [x]) := Lib.hid (take_snoc hx)
      obtain ⟨g, o, rfl, hgB, hcl⟩ := rds_at HR.out (by omega)
      obtain ⟨e0, e1, e2, e3, e4, e5, e6, e7, e8⟩ : RdAt wr g (o + k * 9) x := (hcl k x hx).keep (fun j => hbw.out.cell (p := ⟨g, j, none⟩) (by show g < _; omega))
      have hk8 : (k : Int) < (n : Int) := by omega
      have hk9 : (0 : Int) ≤ (k : Int) := by omega
      have HPU := Lib.hid (rput_any wr A5 out m c5 x.e.person w.heap.size hm.out hrow.out hwz hnm.out.1 (by omega))
      clear hcl hx
      go_wp2_with fail
      refine HPU.out.mono ?_
      rintro e w8 ⟨A8, c8, out8, rfl, ho8, ⟨hr8, hm8⟩, hl8, hb8⟩
      obtain ⟨m8, hm8e⟩ : ∃ m8, out8.length = m8 := ⟨_, rfl⟩
      rw [hm8e] at ho8 hl8 ⊢
      have HO8 := Lib.hid ho8
      have HL8 := Lib.hid hm8e
      have HB8 : Hid (Below w.heap.size w w8) := Lib.hid (hbw.out.trans (hb8.mono hwz))
      have HA8 : Hid (IsNames (fun y => (xl.take (k + 1)).any fun r => decide (r.e.person = y)) out8) := Lib.hid ⟨hr8, fun y => by
        rw [hm8, hnm.out.2]
        dsimp only
        rw [HTK.out, List.any_append, Bool.or_eq_true]
        simp only [List.any_cons, List.any_nil, Bool.or_false, decide_eq_true_eq]
        constructor
        · rintro (h | h)
          · exact Or.inl h
          · exact Or.inr h.symm
        · rintro (h | h)
          · exact Or.inl h
          · exact Or.inr h.symm⟩
      clear ho8 hr8 hm8 hb8 hm8e HPU
      go_wp2_with fail
      go_roundw
      case rel => exact ⟨k + 1, m8, out8, by omega, by omega, by go_num, HL8, HA8, HO8, HB8⟩
      case measure => simp [intOf]; omega
    · obtain rfl : n = k := by omega
      have hta : xl.take n = xl := by rw [← HN.out, List.take_length]
      rw [hta] at hnm
      go_wp2_with fail
      go_ret
      exact ⟨A5, m, c5, out, rfl, hm.out, hnm.out, hrow.out, hmk, hbw.out⟩

def rmkB (xl : List Rd) (p : ByteArray) (a b : Int) (l : List Rd) (y : ByteArray) : Bool := l.any fun r => decide (lstK (ownR xl p) ⟨#[]⟩ r.e.text a b = a ∧ r.e.text = y)

set_option maxHeartbeats 4000000 in
set_option maxRecDepth 100000 in
theorem rmakers_any (w : World) (B : Nat) (A : Option Addr) (n c : Nat) (xl : List Rd) (p : ByteArray) (a b : Int) (hn : xl.length = n) (hr : RowIn w B 9 A n (xl.flatMap rdC)) (hB : B ≤ w.heap.size) (hb : n ≤ 1000) :
    Calls Tryd.prog 35 #[.slice A n c, .string p, .int .i64 a, .int .i64 b] w fun e w' => ∃ (A' : Option Addr) (m c' : Nat) (out : List ByteArray), e = .returned (.slice A' m c') ∧ out.length = m ∧ IsNames (rmkB xl p a b (ownR xl p)) out ∧ w'.ownsRow w.heap.size 9 1 (.slice A' m c') m (out.map .string) ∧ m ≤ n ∧ Below w.heap.size w w' := by
  obtain ⟨w1, hw1⟩ : ∃ w1, w.alloc (.cells #[] 9) = w1 := ⟨_, rfl⟩
  have HO1 : Hid (w1.ownsRow w.heap.size 9 1 (.slice (some ⟨w.heap.size, 0, none⟩) 0 0) 0 []) := Lib.hid (by rw [← hw1]; exact own_empty _ _ _)
  have HB1 : Hid (Below w.heap.size w w1) := Lib.hid (by rw [← hw1]; exact (Below.refl _ _).alloc (Nat.le_refl _) _)
  have HOW := Lib.hid (own_any w1 B A n c xl p hn (hr.below (HB1.out.mono hB)) (Nat.le_trans hB HB1.out.size) (by omega))
  have HLA : Hid (∀ (W : World) (t : ByteArray), Below w.heap.size w W → Calls Tryd.prog 23 #[.slice A n c, .string p, .string ⟨#[]⟩, .string t, .int .i64 a, .int .i64 b] W fun e w' => e = .returned (.int .i64 (lstK (ownR xl p) ⟨#[]⟩ t a b)) ∧ Below W.heap.size W w') := Lib.hid (fun W t hW => last_any W B A n c xl p ⟨#[]⟩ t a b hn (hr.below (hW.mono hB)) (Nat.le_trans hB hW.size) hb)
  obtain ⟨ol, hol⟩ : ∃ ol, ownR xl p = ol := ⟨_, rfl⟩
  have HOL := Lib.hid hol
  rw [hol] at HOW ⊢
  clear hn hr hol
  go_enter Tryd.func35, Tryd.ntmps35
  go_wp2_with fail
  clear hw1
  refine HOW.out.mono ?_
  rintro e w2 ⟨A2, N, c2, rfl, hn2, hnn, ho2, hb2⟩
  have HNL : Hid (ol.length = N) := Lib.hid hn2.symm
  have HR2 := Lib.hid (RowIn.of_own ho2)
  have HB2 : Hid (Below w.heap.size w w2) := Lib.hid (HB1.out.trans (hb2.mono HB1.out.size))
  have HO2 : Hid (w2.ownsRow w.heap.size 9 1 (.slice (some ⟨w.heap.size, 0, none⟩) 0 0) 0 []) := Lib.hid (owns_kept HO1.out (below_kept (S := fun _ => False) hb2 (Nat.le_refl _)) (fun _ _ h => h))
  have HZ2 : Hid (w.heap.size ≤ w2.heap.size) := Lib.hid HB2.out.size
  clear hn2 ho2 hb2 HOW HO1 HB1
  go_wp2_with fail
  go_loopw [9, 17] (fun v i wr => ∃ (k m : Nat) (out : List ByteArray), k ≤ N ∧ m ≤ k ∧ i = .int .i64 k ∧ Hid (out.length = m) ∧ Hid (IsNames (rmkB xl p a b (ol.take k)) out) ∧ Hid (wr.ownsRow w.heap.size 9 1 v m (out.map .string)) ∧ Hid (Below w2.heap.size w2 wr)) (fun _ i _ => N - (intOf i).toNat)
  case atStart => exact ⟨0, 0, [], Nat.zero_le _, Nat.le_refl _, rfl, Lib.hid rfl, Lib.hid ⟨List.Pairwise.nil, fun y => by simp [rmkB]⟩, HO2, Lib.hid (Below.refl _ _)⟩
  case round =>
    clear HO2
    obtain ⟨k, m, out, hk, hmk, rfl, hm, hnm, hrow, hbw⟩ := hrel
    obtain ⟨A5, c5, hq⟩ := own_shape hrow.out
    rw [hq] at hrow ⊢
    clear hq
    have hwz := hbw.out.size
    have hz2 := HZ2.out
    by_cases hlt : k < N
    · obtain ⟨x, hx⟩ : ∃ x, ol[k]? = some x := ⟨ol[k]'(by rw [HNL.out]; exact hlt), List.getElem?_eq_getElem _⟩
      have HTK : Hid (∀ y, rmkB xl p a b (ol.take (k + 1)) y = (rmkB xl p a b (ol.take k) y || decide (lstK (ownR xl p) ⟨#[]⟩ x.e.text a b = a ∧ x.e.text = y))) := Lib.hid (fun y => by unfold rmkB; rw [take_snoc hx, List.any_append]; simp)
      obtain ⟨g, o, rfl, hgB, hcl⟩ := rds_at HR2.out (by omega)
      obtain ⟨e0, e1, e2, e3, e4, e5, e6, e7, e8⟩ : RdAt wr g (o + k * 9) x := (hcl k x hx).keep (fun j => hbw.out.cell (p := ⟨g, j, none⟩) hgB)
      have hk8 : (k : Int) < (N : Int) := by omega
      have hk9 : (0 : Int) ≤ (k : Int) := by omega
      obtain ⟨w3, hw3⟩ : ∃ w3, wr.alloc (.cells (rdAr x) 43) = w3 := ⟨_, rfl⟩
      have HBX : Hid (Blk w3 wr.heap.size 43 (rdAr x)) := Lib.hid (by rw [← hw3]; exact Blk.new _ _ _)
      have HB3 : Hid (Below w2.heap.size w2 w3) := Lib.hid (by rw [← hw3]; exact hbw.out.alloc hwz _)
      have HO3 : Hid (w3.ownsRow w.heap.size 9 1 (.slice A5 m c5) m (out.map .string)) := Lib.hid (by rw [← hw3]; exact hrow.out.alloc _)
      have d7 : w3.cell? ⟨wr.heap.size, 7, none⟩ = some (.string x.e.text) := HBX.out.cell 7
      have HL3 := Lib.hid (HLA.out w3 x.e.text (HB2.out.trans (HB3.out.mono HZ2.out)))
      obtain ⟨lv, hlv⟩ : ∃ lv, lstK (ownR xl p) ⟨#[]⟩ x.e.text a b = lv := ⟨_, rfl⟩
      rw [hlv] at HL3 HTK
      unfold rdAr at hw3
      clear hcl hx hlv
      go_wp2_with fail
      refine HL3.out.mono ?_
      rintro e w4 ⟨rfl, hb4⟩
      have HB4 : Hid (Below w2.heap.size w2 w4) := Lib.hid (HB3.out.trans (hb4.mono HB3.out.size))
      have HO4 : Hid (w4.ownsRow w.heap.size 9 1 (.slice A5 m c5) m (out.map .string)) := Lib.hid (owns_kept HO3.out (below_kept (S := fun _ => False) hb4 (Nat.le_refl _)) (fun _ _ h => h))
      have f7 : w4.cell? ⟨wr.heap.size, 7, none⟩ = some (.string x.e.text) := (hb4.cell (p := ⟨wr.heap.size, 7, none⟩) HBX.out.lt).trans d7
      clear hb4 HL3 d7 hw3 HBX e0 e1 e2 e3 e4 e5 e6 e7 e8
      by_cases q1 : lv = a
      · have s1 := int_t q1
        have HPU := Lib.hid (rput_any w4 A5 out m c5 x.e.text w.heap.size hm.out HO4.out (by have := HB4.out.size; omega) hnm.out.1 (by omega))
        have HQ := Lib.hid q1
        clear q1
        go_wp2_with fail
        refine HPU.out.mono ?_
        rintro e w8 ⟨A8, c8, out8, rfl, ho8, ⟨hr8, hm8⟩, hl8, hb8⟩
        obtain ⟨m8, hm8e⟩ : ∃ m8, out8.length = m8 := ⟨_, rfl⟩
        rw [hm8e] at ho8 hl8 ⊢
        have HO8 := Lib.hid ho8
        have HL8 := Lib.hid hm8e
        have HB8 : Hid (Below w2.heap.size w2 w8) := Lib.hid (HB4.out.trans (hb8.mono HB4.out.size))
        have HA8 : Hid (IsNames (rmkB xl p a b (ol.take (k + 1))) out8) := Lib.hid ⟨hr8, fun y => by
          rw [hm8, hnm.out.2, HTK.out, Bool.or_eq_true, decide_eq_true_eq]
          constructor
          · rintro (h | h)
            · exact Or.inl h
            · exact Or.inr ⟨HQ.out, h.symm⟩
          · rintro (h | h)
            · exact Or.inl h
            · exact Or.inr h.2.symm⟩
        clear ho8 hr8 hm8 hb8 hm8e HPU
        go_wp2_with fail
        go_roundw
        case rel => exact ⟨k + 1, m8, out8, by omega, by omega, by go_num, HL8, HA8, HO8, HB8⟩
        case measure => simp [intOf]; omega
      · have s1 := int_f q1
        have HA8 : Hid (IsNames (rmkB xl p a b (ol.take (k + 1))) out) := Lib.hid ⟨hnm.out.1, fun y => by
          rw [hnm.out.2, HTK.out, Bool.or_eq_true, decide_eq_true_eq]
          constructor
          · exact Or.inl
          · rintro (h | h)
            · exact h
            · exact absurd h.1 q1⟩
        clear q1
        go_wp2_with fail
        go_roundw
        case rel => exact ⟨k + 1, m, out, by omega, by omega, by go_num, hm, HA8, HO4, HB4⟩
        case measure => simp [intOf]; omega
    · obtain rfl : N = k := by omega
      have hta : ol.take N = ol := by rw [← HNL.out, List.take_length]
      rw [hta] at hnm
      have HBF : Hid (Below w.heap.size w wr) := Lib.hid (HB2.out.trans (hbw.out.mono HZ2.out))
      go_wp2_with fail
      go_ret
      exact ⟨A5, m, c5, out, rfl, hm.out, hnm.out, hrow.out, by omega, HBF.out⟩

end Go.Proofs.YtnkglbiakjnfjaaDoor
