/- The rule's parser whole; rule.Parse. -/
import Derived.Test.YtpgbgeofhcpocaaGreatDoorRuW
namespace Go.Proofs.YtpgbgeofhcpocaaGreatDoor
open Go.RowKit Go.Maps Go.Shelf
set_option linter.unusedVariables false

theorem par_some (n : Nat) : ∀ ts : List Tk, ts.length ≤ n → ParOk 34 2 ts ∧ ParOk 12 0 ts := by
  have lift : ∀ n, (∀ ts : List Tk, ts.length ≤ n → ParOk 34 2 ts) → ∀ ts : List Tk, ts.length ≤ n → ParOk 12 0 ts := fun n h ts hl =>
    or_of ts (fun ts' h' => and_of ts' (fun ts2 h2 => h ts2 (by omega)))
  induction n with
  | zero =>
    have h : ∀ ts : List Tk, ts.length ≤ 0 → ParOk 34 2 ts := fun ts hl => not_of ts (fun ts' h' => by omega) (fun ts' h' => by omega)
    exact fun ts hl => ⟨h ts hl, lift 0 h ts hl⟩
  | succ n ih =>
    have h : ∀ ts : List Tk, ts.length ≤ n + 1 → ParOk 34 2 ts := fun ts hl => not_of ts (fun ts' h' => (ih ts' (by omega)).2) (fun ts' h' => (ih ts' (by omega)).1)
    exact fun ts hl => ⟨h ts hl, lift (n + 1) h ts hl⟩
theorem or_any (ts : List Tk) : ParOk 12 0 ts := (par_some ts.length ts (Nat.le_refl _)).2

theorem wordT_len (s : ByteArray) (i fr : Nat) : (wordT s i fr).length = if fr < i then 1 else 0 := by
  unfold wordT
  split <;> rfl
theorem tokF_len (s : ByteArray) : ∀ (f i fr : Nat), f = s.size - i → fr ≤ i → i ≤ s.size → (tokF s f i fr).length ≤ s.size - fr
  | 0, i, fr, hf, h1, h2 => by
    rw [tokF, wordT_len]
    split <;> omega
  | f + 1, i, fr, hf, h1, h2 => by
    rw [tokF]
    split
    · rw [List.length_append, List.length_append, wordT_len]
      have h3 := tokF_len s f (i + 1) (i + 1) (by omega) (Nat.le_refl _) (by omega)
      have h4 : (signT s i).length ≤ 1 := by unfold signT; split <;> simp
      split <;> omega
    · exact tokF_len s f (i + 1) fr (by omega) (by omega) (by omega)
theorem toks_len (s : ByteArray) : (toks s).length ≤ s.size := tokF_len s _ 0 0 rfl (Nat.le_refl _) (Nat.zero_le _)
theorem tokF_mem (s : ByteArray) : ∀ (f i fr : Nat), ∀ t ∈ tokF s f i fr, t.1.size ≤ s.size
  | 0, i, fr, t, ht => by
    rw [tokF] at ht
    unfold wordT at ht
    split at ht
    · rw [List.mem_singleton] at ht; subst ht; simp [ByteArray.size_extract]; omega
    · cases ht
  | f + 1, i, fr, t, ht => by
    rw [tokF] at ht
    split at ht
    · rcases List.mem_append.1 ht with ht | ht
      · rcases List.mem_append.1 ht with ht | ht
        · unfold wordT at ht
          split at ht
          · rw [List.mem_singleton] at ht; subst ht; simp [ByteArray.size_extract]; omega
          · cases ht
        · unfold signT at ht
          split at ht
          · cases ht
          · rw [List.mem_singleton] at ht; subst ht; simp [ByteArray.size_extract]; omega
      · exact tokF_mem s f _ _ t ht
    · exact tokF_mem s f _ _ t ht
theorem toks_mem (s : ByteArray) : ∀ t ∈ toks s, t.1.size ≤ s.size := tokF_mem s _ 0 0

/-- What parsing a text says: a rule (none: one that always holds), and where it goes wrong. -/
inductive Says (s : ByteArray) : Option (Option Nd) → Nat → Prop
  | long (h : 2000 < s.size) : Says s none 0
  | empty (h : s.size ≤ 2000) (h0 : toks s = []) : Says s (some none) 0
  | good {ns : List Nd} (h : s.size ≤ 2000) (h0 : toks s ≠ []) (hp : P 0 0 (tx (toks s)) true [] ns) : Says s (some (some (nodeOf 0 ns))) 0
  | bad {ok : Bool} {j : Nat} {ns : List Nd} (h : s.size ≤ 2000) (h0 : toks s ≠ []) (hp : P 0 0 (tx (toks s)) ok (tx ((toks s).drop j)) ns) (hn : ok = false ∨ (toks s).drop j ≠ []) : Says s none (place ((toks s).drop j) s.size)
def errOf (r : Option (Option Nd)) : Int := if r.isNone then 11 else 0
/-- A rule in memory. -/
def RuleV (w : World) (B : Nat) : Option (Option Nd) → Value → Prop
  | none, v => v = .pointer none
  | some none, v => ∃ g, v = .pointer (some ⟨g, 0, none⟩) ∧ B ≤ g ∧ Blk w g 51 #[.nilIface]
  | some (some n), v => NF n ∧ ∃ g u, v = .pointer (some ⟨g, 0, none⟩) ∧ B ≤ g ∧ Blk w g 51 #[u] ∧ NdAt w B n u
theorem RuleV.keep {w w' : World} {B : Nat} {r : Option (Option Nd)} {v : Value} (h : RuleV w B r v) (hs : w.heap.size ≤ w'.heap.size) (hb : ∀ i, i < w.heap.size → B ≤ i → w'.heap[i]? = w.heap[i]?) : RuleV w' B r v := by
  match r, h with
  | none, h => exact h
  | some none, ⟨g, e, hg, hB⟩ => exact ⟨g, e, hg, (hb g hB.lt hg).trans hB⟩
  | some (some n), ⟨hn, g, u, e, hg, hB, hu⟩ => exact ⟨hn, g, u, e, hg, (hb g hB.lt hg).trans hB, hu.keep hs hb⟩
theorem RuleV.below {w w' : World} {B : Nat} {r : Option (Option Nd)} {v : Value} (h : RuleV w B r v) (hb : Below w.heap.size w w') : RuleV w' B r v := h.keep hb.size (fun i hi _ => hb.block i hi)
def ParseR (s : ByteArray) (w : World) (e : Ending) (w' : World) : Prop := ∃ r at_ v, Says s r at_ ∧ e = .returned (.tuple #[v, .int .i64 (at_ : Nat), .int .i64 (errOf r)]) ∧ RuleV w' w.heap.size r v ∧ Below w.heap.size w w'

set_option maxHeartbeats 4000000 in
set_option maxRecDepth 100000 in
theorem parse_any (s : ByteArray) (w : World) (hs : s.size ≤ 1000000) (hge : ∀ V, Below w.heap.size w V → ErrAt V ∧ TabAt V) :
    Calls Tryz.prog 6 #[.string s] w fun e w' => ParseR s w e w' := by
  have HGE := Lib.hid hge
  have HTK := Lib.hid (tokens_any s w hs)
  have HL := Lib.hid (toks_len s)
  have HM := Lib.hid (toks_mem s)
  obtain ⟨n, hn⟩ : ∃ n, (toks s).length = n := ⟨_, rfl⟩
  rw [hn] at HTK HL
  have HN := Lib.hid hn
  clear hge hn
  go_enter Tryz.func6, Tryz.ntmps6
  by_cases h2 : 2000 < s.size
  · have HF : Hid (ParseR s w (.returned (.tuple #[.pointer none, .int .i64 0, .int .i64 11])) w) := Lib.hid ⟨none, 0, _, .long h2, rfl, rfl, Below.refl _ _⟩
    have q1 : (2000 : Int) < (s.size : Int) := by omega
    clear h2 HTK
    go_wp2_with fail
    go_ret3
    exact HF.out
  have q1 : ¬ (2000 : Int) < (s.size : Int) := by omega
  go_wp2_with fail
  refine HTK.out.mono ?_
  rintro e w1 ⟨A, c, rfl, hown, hb1⟩
  have HB1 := Lib.hid hb1
  obtain ⟨w2, hw2⟩ : ∃ w2, w1.alloc (.cells #[.slice A n c, .int .i64 s.size, .int .i64 0, .bool false, .int .i64 0] 47) = w2 := ⟨_, rfl⟩
  have hb2 : Below w1.heap.size w1 w2 := by rw [← hw2]; exact (Below.refl _ _).alloc (Nat.le_refl _) _
  have HB2 : Hid (Below w.heap.size w w2) := Lib.hid (hb1.trans (hb2.mono hb1.size))
  have hz2 : w2.heap.size = w1.heap.size + 1 := by rw [← hw2]; simp
  have HPS : Hid (PsAt w2 w1.heap.size w1.heap.size (toks s) s.size 0 false 0) := Lib.hid (by
    have hown2 : w2.ownsRow w.heap.size 63 2 (.slice A n c) n ((toks s).flatMap tkC) := own_below hown hb2
    refine ⟨A, n, c, by rw [← hw2]; exact Blk.new _ _ _, RowIn.of_own hown2, HN.out, ?_, fun g o e => ?_⟩
    · rcases hown.2 with ⟨h, h0⟩ | ⟨g, cap, cur, h, _, _, hcap, _⟩
      · rw [h0]; exact Nat.zero_le _
      · injection h with _ _ h; omega
    · have := (hown.lt g (by rw [e]; rfl)).2
      exact ⟨by omega, this⟩)
  have c0 : w2.cell? ⟨w1.heap.size, 0, none⟩ = some (.slice A n c) := by rw [← hw2]; exact (Blk.new _ _ _).cell 0
  have HZ2 := Lib.hid hz2
  clear hown hb1 hb2 hz2 HTK
  by_cases h0 : n = 0
  · have h00 : toks s = [] := List.length_eq_zero_iff.1 (HN.out.trans h0)
    have hn0 : (n : Int) = 0 := by omega
    obtain ⟨w3, hw3⟩ : ∃ w3, w2.alloc (.cells #[.nilIface] 51) = w3 := ⟨_, rfl⟩
    have HF : Hid (ParseR s w (.returned (.tuple #[.pointer (some ⟨w2.heap.size, 0, none⟩), .int .i64 0, .int .i64 0])) w3) := Lib.hid (by
      have hb3 : Below w2.heap.size w2 w3 := by rw [← hw3]; exact (Below.refl _ _).alloc (Nat.le_refl _) _
      exact ⟨some none, 0, _, .empty (by omega) h00, rfl, ⟨_, rfl, HB2.out.size, by rw [← hw3]; exact Blk.new _ _ _⟩, HB2.out.trans (hb3.mono HB2.out.size)⟩)
    clear h00 h0
    go_wp2_with fail
    go_ret3
    exact HF.out
  have hne : toks s ≠ [] := fun h => h0 (by rw [← HN.out, h]; rfl)
  have HNE := Lib.hid hne
  have hn0 : ¬ (n : Int) = 0 := by omega
  have HOR := Lib.hid (or_any (toks s) w2.heap.size w1.heap.size w1.heap.size s.size 0 0 w2 (by have := HZ2.out; omega) (by have := HZ2.out; omega) (Nat.le_refl _) (by omega) (by have := HL.out; have := HN.out; omega) (fun t ht => by have := HM.out t ht; omega) HPS.out (fun V hV => HGE.out V (HB2.out.trans (hV.mono HB1.out.size))))
  clear hne h0
  go_wp2_with fail
  clear hw2 c0
  refine HOR.out.mono ?_
  rintro e w4 ⟨v, ok, ts1, ns, at1, rfl, hpi⟩
  have HPI := Lib.hid hpi
  have hvf := okv_form hpi.okv
  obtain ⟨A4, n4, c4, hps⟩ := hpi.ps
  have k0 : w4.cell? ⟨w1.heap.size, 0, none⟩ = some (.slice A4 n4 c4) := hps.blk.cell 0
  have k3 : w4.cell? ⟨w1.heap.size, 3, none⟩ = some (.bool (!ok)) := hps.blk.cell 3
  have k4 : w4.cell? ⟨w1.heap.size, 4, none⟩ = some (.int .i64 at1) := hps.blk.cell 4
  have HL4 := Lib.hid hps.len
  have HB4 : Hid (Below w.heap.size w w4) := Lib.hid ((HB2.out.trans (hpi.kept.toBelow (B := w.heap.size) (fun i hi => by have := HB1.out.size; omega) HB2.out.size)))
  clear hpi hps HOR
  cases ok
  · have HF : Hid (∀ q, ParseR s w (.returned (.tuple #[.pointer none, .int .i64 at1, .int .i64 11])) (w4.drewN q)) := Lib.hid (fun q => by
      obtain ⟨j, hj⟩ := HPI.out.drop
      have hp := HPI.out.par
      have ha := HPI.out.at1
      rw [hj] at hp ha
      simp at ha
      exact ⟨none, at1, _, by rw [ha]; exact .bad (by omega) HNE.out hp (Or.inl rfl), rfl, rfl, below_drewN HB4.out q⟩)
    simp only [Bool.not_false] at k3
    clear HPI
    rcases hvf with rfl | ⟨tv, xv, rfl⟩
    · go_wp2_with fail
      go_quiet (fail)
      go_wp2_with fail
      go_ret3
      exact HF.out _
    · go_wp2_with fail
      go_quiet (fail)
      go_wp2_with fail
      go_ret3
      exact HF.out _
  simp only [Bool.not_true] at k3
  cases ts1 with
  | nil =>
    obtain rfl : n4 = 0 := HL4.out.symm
    obtain ⟨w5, hw5⟩ : ∃ w5, w4.alloc (.cells #[v] 51) = w5 := ⟨_, rfl⟩
    have HF : Hid (ParseR s w (.returned (.tuple #[.pointer (some ⟨w4.heap.size, 0, none⟩), .int .i64 0, .int .i64 0])) w5) := Lib.hid (by
      have hb5 : Below w4.heap.size w4 w5 := by rw [← hw5]; exact (Below.refl _ _).alloc (Nat.le_refl _) _
      have hp := HPI.out.par
      have hnf := hp.nf rfl
      refine ⟨_, 0, _, .good (by omega) HNE.out hp, rfl, ⟨nodeOf_nf hnf.1 hnf.2, w4.heap.size, v, rfl, HB4.out.size, by rw [← hw5]; exact Blk.new _ _ _, ?_⟩, HB4.out.trans (hb5.mono HB4.out.size)⟩
      exact ((HPI.out.nd rfl).under hb5).low HB2.out.size)
    clear HPI
    rcases hvf with rfl | ⟨tv, xv, rfl⟩
    · go_wp2_with fail
      go_ret3
      exact HF.out
    · go_wp2_with fail
      go_ret3
      exact HF.out
  | cons t r =>
    have hn4 : (0 : Int) < (n4 : Int) := by have := HL4.out; simp at this; omega
    have HFL := Lib.hid (fail_any w1.heap.size s.size 0 at1 (t :: r) w4 HPI.out.ps)
    have HF : Hid (∀ w', Kept (fun i => i = w1.heap.size) w4 w' → ∀ q, ParseR s w (.returned (.tuple #[.pointer none, .int .i64 (place (t :: r) s.size : Nat), .int .i64 11])) (w'.drewN q)) := Lib.hid (fun w' hk q => by
      obtain ⟨j, hj⟩ := HPI.out.drop
      have hp := HPI.out.par
      rw [hj] at hp ⊢
      exact ⟨none, _, _, .bad (by omega) HNE.out hp (Or.inr (by rw [← hj]; simp)), rfl, rfl, below_drewN (HB4.out.trans (hk.toBelow (B := w.heap.size) (fun i hi => by have := HB1.out.size; omega) HB4.out.size)) q⟩)
    clear HPI
    rcases hvf with rfl | ⟨tv, xv, rfl⟩
    · go_wp2_with fail
      refine HFL.out.mono ?_
      rintro e w5 ⟨rfl, hp5, hk5⟩
      have HX := Lib.hid (HF.out w5 hk5)
      obtain ⟨A5, n5, c5, hps⟩ := hp5
      have m3 : w5.cell? ⟨w1.heap.size, 3, none⟩ = some (.bool true) := hps.blk.cell 3
      have m4 : w5.cell? ⟨w1.heap.size, 4, none⟩ = some (.int .i64 (place (t :: r) s.size : Nat)) := hps.blk.cell 4
      clear hps hk5 HFL HF
      go_wp2_with fail
      go_quiet (fail)
      go_wp2_with fail
      go_ret3
      exact HX.out _
    · go_wp2_with fail
      refine HFL.out.mono ?_
      rintro e w5 ⟨rfl, hp5, hk5⟩
      have HX := Lib.hid (HF.out w5 hk5)
      obtain ⟨A5, n5, c5, hps⟩ := hp5
      have m3 : w5.cell? ⟨w1.heap.size, 3, none⟩ = some (.bool true) := hps.blk.cell 3
      have m4 : w5.cell? ⟨w1.heap.size, 4, none⟩ = some (.int .i64 (place (t :: r) s.size : Nat)) := hps.blk.cell 4
      clear hps hk5 HFL HF
      go_wp2_with fail
      go_quiet (fail)
      go_wp2_with fail
      go_ret3
      exact HX.out _
end Go.Proofs.YtpgbgeofhcpocaaGreatDoor
