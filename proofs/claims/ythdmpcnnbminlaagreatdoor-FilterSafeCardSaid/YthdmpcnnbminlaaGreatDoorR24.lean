/- A part of the joined base. -/
import Derived.Test.YthdmpcnnbminlaaGreatDoorR01
import Derived.Test.YthdmpcnnbminlaaGreatDoorR23
import Derived.Lib.AppendIntMem
set_option linter.unusedVariables false
set_option maxHeartbeats 8000000
set_option maxRecDepth 100000
namespace Go.Proofs.YthdmpcnnbminlaaGreatDoor.Ru
open Go.RowKit Go.Maps Go.Shelf
theorem par_some (n : Nat) : ∀ ts : List Tk, ts.length ≤ n → ParOk 170 2 ts ∧ ParOk 81 0 ts := by
 have lift : ∀ n, (∀ ts : List Tk, ts.length ≤ n → ParOk 170 2 ts) → ∀ ts : List Tk, ts.length ≤ n → ParOk 81 0 ts := fun n h ts hl =>
  or_of ts (fun ts' h' => and_of ts' (fun ts2 h2 => h ts2 (by omega)))
 induction n with
 | zero =>
  have h : ∀ ts : List Tk, ts.length ≤ 0 → ParOk 170 2 ts := fun ts hl => not_of ts (fun ts' h' => by omega) (fun ts' h' => by omega)
  exact fun ts hl => ⟨h ts hl, lift 0 h ts hl⟩
 | succ n ih =>
  have h : ∀ ts : List Tk, ts.length ≤ n + 1 → ParOk 170 2 ts := fun ts hl => not_of ts (fun ts' h' => (ih ts' (by omega)).2) (fun ts' h' => (ih ts' (by omega)).1)
  exact fun ts hl => ⟨h ts hl, lift (n + 1) h ts hl⟩
theorem or_any (ts : List Tk) : ParOk 81 0 ts := (par_some ts.length ts (Nat.le_refl _)).2
theorem wordT_len (s : ByteArray) (i fr : Nat) : (wordT s i fr).length = if fr < i then 1 else 0 := by
 unfold wordT
 split <;> rfl
theorem tokF_len (s : ByteArray) : ∀ (f i fr : Nat), f = s.size - i → fr ≤ i → i ≤ s.size → (tokF s f i fr).length ≤ s.size - fr
 | 0, i, fr, hf, h1, h2 => by
  rw [tokF, wordT_len]
  split <;> omega
 | f + 1, i, fr, hf, h1, h2 => by
  rw [tokF]
  split
  ·rw [List.length_append, List.length_append, wordT_len]
   have h3 := tokF_len s f (i + 1) (i + 1) (by omega) (Nat.le_refl _) (by omega)
   have h4 : (signT s i).length ≤ 1 := by unfold signT; split <;> simp
   split <;> omega
  ·exact tokF_len s f (i + 1) fr (by omega) (by omega) (by omega)
theorem toks_len (s : ByteArray) : (toks s).length ≤ s.size := tokF_len s _ 0 0 rfl (Nat.le_refl _) (Nat.zero_le _)
theorem tokF_mem (s : ByteArray) : ∀ (f i fr : Nat), ∀ t ∈ tokF s f i fr, t.1.size ≤ s.size
 | 0, i, fr, t, ht => by
  rw [tokF] at ht
  unfold wordT at ht
  split at ht
  ·rw [List.mem_singleton] at ht; subst ht; simp [ByteArray.size_extract]; omega
  ·cases ht
 | f + 1, i, fr, t, ht => by
  rw [tokF] at ht
  split at ht
  ·rcases List.mem_append.1 ht with ht | ht
   ·rcases List.mem_append.1 ht with ht | ht
    ·unfold wordT at ht
     split at ht
     ·rw [List.mem_singleton] at ht; subst ht; simp [ByteArray.size_extract]; omega
     ·cases ht
    ·unfold signT at ht
     split at ht
     ·cases ht
     ·rw [List.mem_singleton] at ht; subst ht; simp [ByteArray.size_extract]; omega
   ·exact tokF_mem s f _ _ t ht
  ·exact tokF_mem s f _ _ t ht
theorem toks_mem (s : ByteArray) : ∀ t ∈ toks s, t.1.size ≤ s.size := tokF_mem s _ 0 0
inductive Says (s : ByteArray) : Option (Option Nd) → Nat → Prop
 | long (h : 2000 < s.size) : Says s none 0
 | empty (h : s.size ≤ 2000) (h0 : toks s = []) : Says s (some none) 0
 | good {ns : List Nd} (h : s.size ≤ 2000) (h0 : toks s ≠ []) (hp : P 0 0 (tx (toks s)) true [] ns) : Says s (some (some (nodeOf 0 ns))) 0
 | bad {ok : Bool} {j : Nat} {ns : List Nd} (h : s.size ≤ 2000) (h0 : toks s ≠ []) (hp : P 0 0 (tx (toks s)) ok (tx ((toks s).drop j)) ns) (hn : ok = false ∨ (toks s).drop j ≠ []) : Says s none (place ((toks s).drop j) s.size)
def errOf (r : Option (Option Nd)) : Int := if r.isNone then 11 else 0
def RuleV (w : World) (B : Nat) : Option (Option Nd) → Value → Prop
 | none, v => v = .pointer none
 | some none, v => ∃ g, v = .pointer (some ⟨g, 0, none⟩) ∧ B ≤ g ∧ Blk w g 121 #[.nilIface]
 | some (some n), v => NF n ∧ ∃ g u, v = .pointer (some ⟨g, 0, none⟩) ∧ B ≤ g ∧ Blk w g 121 #[u] ∧ NdAt w B n u
theorem RuleV.keep {w w' : World} {B : Nat} {r : Option (Option Nd)} {v : Value} (h : RuleV w B r v) (hs : w.heap.size ≤ w'.heap.size) (hb : ∀ i, i < w.heap.size → B ≤ i → w'.heap[i]? = w.heap[i]?) : RuleV w' B r v := by
 match r, h with
 | none, h => exact h
 | some none, ⟨g, e, hg, hB⟩ => exact ⟨g, e, hg, (hb g hB.lt hg).trans hB⟩
 | some (some n), ⟨hn, g, u, e, hg, hB, hu⟩ => exact ⟨hn, g, u, e, hg, (hb g hB.lt hg).trans hB, hu.keep hs hb⟩
theorem RuleV.below {w w' : World} {B : Nat} {r : Option (Option Nd)} {v : Value} (h : RuleV w B r v) (hb : Below w.heap.size w w') : RuleV w' B r v := h.keep hb.size (fun i hi _ => hb.block i hi)
def ParseR (s : ByteArray) (w : World) (e : Ending) (w' : World) : Prop := ∃ r at_ v, Says s r at_ ∧ e = .returned (.tuple #[v, .int .i64 (at_ : Nat), .int .i64 (errOf r)]) ∧ RuleV w' w.heap.size r v ∧ Below w.heap.size w w'
theorem parse_any (s : ByteArray) (w : World) (hs : s.size ≤ 1000000) (hge : ∀ V, Below w.heap.size w V → ErrAt V ∧ TabAt V) :
  Calls Tryz.prog 43 #[.string s] w fun e w' => ParseR s w e w' := by
 have HGE := zh hge
 have HTK := zh (tokens_any s w hs)
 have HL := zh (toks_len s)
 have HM := zh (toks_mem s)
 obtain ⟨n, hn⟩ : ∃ n, (toks s).length = n := ⟨_, rfl⟩
 rw [hn] at HTK HL
 have HN := zh hn
 clear hge hn
 go_enter Tryz.func43, Tryz.ntmps43
 by_cases h2 : 2000 < s.size
 ·have HF : Hid (ParseR s w (.returned (.tuple #[.pointer none, .int .i64 0, .int .i64 11])) w) := zh ⟨none, 0, _, .long h2, rfl, rfl, Below.refl _ _⟩
  have q1 : (2000 : Int) < (s.size : Int) := by omega
  clear h2 HTK
  go_wp2_with fail
  go_ret3
  exact HF.out
 have q1 : ¬ (2000 : Int) < (s.size : Int) := by omega
 go_wp2_with fail
 refine HTK.out.mono ?_
 rintro e w1 ⟨A, c, rfl, hown, hb1⟩
 have HB1 := zh hb1
 obtain ⟨w2, hw2⟩ : ∃ w2, w1.alloc (.cells #[.slice A n c, .int .i64 s.size, .int .i64 0, .bool false, .int .i64 0] 155) = w2 := ⟨_, rfl⟩
 have hb2 : Below w1.heap.size w1 w2 := by rw [← hw2]; exact (Below.refl _ _).alloc (Nat.le_refl _) _
 have HB2 : Hid (Below w.heap.size w w2) := zh (hb1.trans (hb2.mono hb1.size))
 have hz2 : w2.heap.size = w1.heap.size + 1 := by rw [← hw2]; simp
 have HPS : Hid (PsAt w2 w1.heap.size w1.heap.size (toks s) s.size 0 false 0) := zh (by
  have hown2 : w2.ownsRow w.heap.size 197 2 (.slice A n c) n ((toks s).flatMap tkC) := own_below hown hb2
  refine ⟨A, n, c, by rw [← hw2]; exact Blk.new _ _ _, RowIn.of_own hown2, HN.out, ?_, fun g o e => ?_⟩
  ·rcases hown.2 with ⟨h, h0⟩ | ⟨g, cap, cur, h, _, _, hcap, _⟩
   ·rw [h0]; exact Nat.zero_le _
   ·injection h with _ _ h; omega
  ·have := (hown.lt g (by rw [e]; rfl)).2
   exact ⟨by omega, this⟩)
 have c0 : w2.cell? ⟨w1.heap.size, 0, none⟩ = some (.slice A n c) := by rw [← hw2]; exact (Blk.new _ _ _).cell 0
 have HZ2 := zh hz2
 clear hown hb1 hb2 hz2 HTK
 by_cases h0 : n = 0
 ·have h00 : toks s = [] := List.length_eq_zero_iff.1 (HN.out.trans h0)
  have hn0 : (n : Int) = 0 := by omega
  obtain ⟨w3, hw3⟩ : ∃ w3, w2.alloc (.cells #[.nilIface] 121) = w3 := ⟨_, rfl⟩
  have HF : Hid (ParseR s w (.returned (.tuple #[.pointer (some ⟨w2.heap.size, 0, none⟩), .int .i64 0, .int .i64 0])) w3) := zh (by
   have hb3 : Below w2.heap.size w2 w3 := by rw [← hw3]; exact (Below.refl _ _).alloc (Nat.le_refl _) _
   exact ⟨some none, 0, _, .empty (by omega) h00, rfl, ⟨_, rfl, HB2.out.size, by rw [← hw3]; exact Blk.new _ _ _⟩, HB2.out.trans (hb3.mono HB2.out.size)⟩)
  clear h00 h0
  go_wp2_with fail
  go_ret3
  exact HF.out
 have hne : toks s ≠ [] := fun h => h0 (by rw [← HN.out, h]; rfl)
 have HNE := zh hne
 have hn0 : ¬ (n : Int) = 0 := by omega
 have HOR := zh (or_any (toks s) w2.heap.size w1.heap.size w1.heap.size s.size 0 0 w2 (by have := HZ2.out; omega) (by have := HZ2.out; omega) (Nat.le_refl _) (by omega) (by have := HL.out; have := HN.out; omega) (fun t ht => by have := HM.out t ht; omega) HPS.out (fun V hV => HGE.out V (HB2.out.trans (hV.mono HB1.out.size))))
 clear hne h0
 go_wp2_with fail
 clear hw2 c0
 refine HOR.out.mono ?_
 rintro e w4 ⟨v, ok, ts1, ns, at1, rfl, hpi⟩
 have HPI := zh hpi
 have hvf := okv_form hpi.okv
 obtain ⟨A4, n4, c4, hps⟩ := hpi.ps
 have k0 : w4.cell? ⟨w1.heap.size, 0, none⟩ = some (.slice A4 n4 c4) := hps.blk.cell 0
 have k3 : w4.cell? ⟨w1.heap.size, 3, none⟩ = some (.bool (!ok)) := hps.blk.cell 3
 have k4 : w4.cell? ⟨w1.heap.size, 4, none⟩ = some (.int .i64 at1) := hps.blk.cell 4
 have HL4 := zh hps.len
 have HB4 : Hid (Below w.heap.size w w4) := zh ((HB2.out.trans (hpi.kept.toBelow (B := w.heap.size) (fun i hi => by have := HB1.out.size; omega) HB2.out.size)))
 clear hpi hps HOR
 cases ok
 ·have HF : Hid (∀ q, ParseR s w (.returned (.tuple #[.pointer none, .int .i64 at1, .int .i64 11])) (w4.drewN q)) := zh (fun q => by
   obtain ⟨j, hj⟩ := HPI.out.drop
   have hp := HPI.out.par
   have ha := HPI.out.at1
   rw [hj] at hp ha
   simp at ha
   exact ⟨none, at1, _, by rw [ha]; exact .bad (by omega) HNE.out hp (Or.inl rfl), rfl, rfl, below_drewN HB4.out q⟩)
  simp only [Bool.not_false] at k3
  clear HPI
  rcases hvf with rfl | ⟨tv, xv, rfl⟩
  ·go_wp2_with fail
   go_quiet (fail)
   go_wp2_with fail
   go_ret3
   exact HF.out _
  ·go_wp2_with fail
   go_quiet (fail)
   go_wp2_with fail
   go_ret3
   exact HF.out _
 simp only [Bool.not_true] at k3
 cases ts1 with
 | nil =>
  obtain rfl : n4 = 0 := HL4.out.symm
  obtain ⟨w5, hw5⟩ : ∃ w5, w4.alloc (.cells #[v] 121) = w5 := ⟨_, rfl⟩
  have HF : Hid (ParseR s w (.returned (.tuple #[.pointer (some ⟨w4.heap.size, 0, none⟩), .int .i64 0, .int .i64 0])) w5) := zh (by
   have hb5 : Below w4.heap.size w4 w5 := by rw [← hw5]; exact (Below.refl _ _).alloc (Nat.le_refl _) _
   have hp := HPI.out.par
   have hnf := hp.nf rfl
   refine ⟨_, 0, _, .good (by omega) HNE.out hp, rfl, ⟨nodeOf_nf hnf.1 hnf.2, w4.heap.size, v, rfl, HB4.out.size, by rw [← hw5]; exact Blk.new _ _ _, ?_⟩, HB4.out.trans (hb5.mono HB4.out.size)⟩
   exact ((HPI.out.nd rfl).under hb5).low HB2.out.size)
  clear HPI
  rcases hvf with rfl | ⟨tv, xv, rfl⟩
  ·go_wp2_with fail
   go_ret3
   exact HF.out
  ·go_wp2_with fail
   go_ret3
   exact HF.out
 | cons t r =>
  have hn4 : (0 : Int) < (n4 : Int) := by have := HL4.out; simp at this; omega
  have HFL := zh (fail_any w1.heap.size s.size 0 at1 (t :: r) w4 HPI.out.ps)
  have HF : Hid (∀ w', Kept (fun i => i = w1.heap.size) w4 w' → ∀ q, ParseR s w (.returned (.tuple #[.pointer none, .int .i64 (place (t :: r) s.size : Nat), .int .i64 11])) (w'.drewN q)) := zh (fun w' hk q => by
   obtain ⟨j, hj⟩ := HPI.out.drop
   have hp := HPI.out.par
   rw [hj] at hp ⊢
   exact ⟨none, _, _, .bad (by omega) HNE.out hp (Or.inr (by rw [← hj]; simp)), rfl, rfl, below_drewN (HB4.out.trans (hk.toBelow (B := w.heap.size) (fun i hi => by have := HB1.out.size; omega) HB4.out.size)) q⟩)
  clear HPI
  rcases hvf with rfl | ⟨tv, xv, rfl⟩
  ·go_wp2_with fail
   refine HFL.out.mono ?_
   rintro e w5 ⟨rfl, hp5, hk5⟩
   have HX := zh (HF.out w5 hk5)
   obtain ⟨A5, n5, c5, hps⟩ := hp5
   have m3 : w5.cell? ⟨w1.heap.size, 3, none⟩ = some (.bool true) := hps.blk.cell 3
   have m4 : w5.cell? ⟨w1.heap.size, 4, none⟩ = some (.int .i64 (place (t :: r) s.size : Nat)) := hps.blk.cell 4
   clear hps hk5 HFL HF
   go_wp2_with fail
   go_quiet (fail)
   go_wp2_with fail
   go_ret3
   exact HX.out _
  ·go_wp2_with fail
   refine HFL.out.mono ?_
   rintro e w5 ⟨rfl, hp5, hk5⟩
   have HX := zh (HF.out w5 hk5)
   obtain ⟨A5, n5, c5, hps⟩ := hp5
   have m3 : w5.cell? ⟨w1.heap.size, 3, none⟩ = some (.bool true) := hps.blk.cell 3
   have m4 : w5.cell? ⟨w1.heap.size, 4, none⟩ = some (.int .i64 (place (t :: r) s.size : Nat)) := hps.blk.cell 4
   clear hps hk5 HFL HF
   go_wp2_with fail
   go_quiet (fail)
   go_wp2_with fail
   go_ret3
   exact HX.out _
end Go.Proofs.YthdmpcnnbminlaaGreatDoor.Ru
namespace Go.Proofs.YthdmpcnnbminlaaGreatDoor.Ru
open Go.RowKit Go.Maps Go.Shelf
theorem bx : Builder.Extra Tryz.prog Tryz.lays156_ren where
 sizeBuilder := by kernel_rfl
 liesBuilder := by kernel_rfl
 t5 := Tryz.underlying5
 a5 := Tryz.isAgg5
 z5 := Tryz.sizeOf5
 v5 := Tryz.zeroValue5
 infoByte := by kernel_rfl
 cellsByte := by kernel_rfl
 sizeByte := by kernel_rfl
 neB5 := by decide
theorem join_any (bk o c : Nat) (xs : List ByteArray) (sep : ByteArray) (w : World) (hcells : ∀ (j : Nat) x, xs[j]? = some x → w.cell? ⟨bk, o + j, none⟩ = some (.string x)) (hbk : bk < w.heap.size) (hN : xs.length ≤ 140737488355328) (hcap : xs.length ≤ c) (hlen : (Lib.join (xs.map (·.data.toList)) sep.data.toList).length ≤ 140737488355328) :
  Calls Tryz.prog 97 #[.slice (some ⟨bk, o, none⟩) xs.length c, .string sep] w fun e w' => e = .returned (.string ⟨(Lib.join (xs.map (·.data.toList)) sep.data.toList).toArray⟩) ∧ Below w.heap.size w w' :=
 Any.strings_Join Tryz.lays156 bx bk o c xs sep w hcells hbk hN hcap hlen
def ownB (n : Nd) (wi : Nat) : ByteArray := ⟨(ownN n wi).toArray⟩
theorem ownN_pos {n : Nd} (h : NF n) : ∀ wi, 1 ≤ (ownN n wi).length := by
 induction h with
 | @atom a h =>
  intro wi
  rw [ownN]
  cases a with
  | follows => simp [leafT, followsW]
  | done => simp [leafT, doneW]
  | tag x => simp only [leafT, ba_app, List.length_append]; simp [tagW]; omega
  | maker x => simp only [leafT, ba_app, List.length_append]; simp [makerW]; omega
  | num k less n => simp only [leafT, ba_app, List.length_append]; rcases sign_cases less with ⟨e, _⟩ | ⟨e, _⟩ <;> rw [e] <;> simp <;> omega
 | no h ih => intro wi; rw [ownN]; simp; omega
 | @row k l hk h hf hl ih =>
  intro wi
  cases l with
  | nil => simp at hl
  | cons n l =>
   have := ih n (by simp) (k + 1)
   rw [ownN]
   split <;> simp [ownL] <;> omega
end Go.Proofs.YthdmpcnnbminlaaGreatDoor.Ru
namespace Go.Proofs.YthdmpcnnbminlaaGreatDoor.Ru
open Go.RowKit Go.Maps Go.Shelf
theorem ownB_size (n : Nd) (k : Nat) : (ownB n k).size = (ownN n k).length := by unfold ownB; show ((ownN n k).toArray).size = _; rw [List.size_toArray]
def ruleT : Option Nd → ByteArray
 | none => ⟨#[]⟩
 | some n => ownB n 0
end Go.Proofs.YthdmpcnnbminlaaGreatDoor.Ru
namespace Go.Proofs.YthdmpcnnbminlaaGreatDoor.Ru
def fl (acc : List UInt8) : List ByteArray := if acc = [] then [] else [⟨acc.toArray⟩]
def sg (b : UInt8) : List ByteArray := if b = 32 then [] else [⟨#[b]⟩]
def tkA : List UInt8 → List UInt8 → List ByteArray
 | acc, [] => fl acc
 | acc, b :: l => if isD b = true then fl acc ++ (sg b ++ tkA [] l) else tkA (acc ++ [b]) l
def tkS (s : ByteArray) : List ByteArray := tkA [] s.data.toList
theorem ext_list (s : ByteArray) (i j : Nat) : (s.extract i j).data.toList = (s.data.toList.drop i).take (j - i) := by
 simp [List.extract_eq_take_drop]
theorem ext_fl {s : ByteArray} {i fr : Nat} (h1 : fr ≤ i) (h2 : i ≤ s.size) : tx (wordT s i fr) = fl ((s.data.toList.drop fr).take (i - fr)) := by
 have hl : s.data.toList.length = s.size := by simp
 unfold wordT fl
 by_cases h : fr < i
 ·rw [if_pos h, if_neg (by
   intro e
   have := congrArg List.length e
   rw [List.length_take, List.length_drop, hl] at this
   simp at this
   omega)]
  show [s.extract fr i] = _
  congr 1
  refine ba_ext ?_
  rw [ext_list]
 ·rw [if_neg h, if_pos (by rw [show i - fr = 0 by omega]; rfl)]
  rfl
theorem tokF_tk (s : ByteArray) : ∀ (f i fr : Nat), f = s.size - i → fr ≤ i → i ≤ s.size → tx (tokF s f i fr) = tkA ((s.data.toList.drop fr).take (i - fr)) (s.data.toList.drop i)
 | 0, i, fr, hf, h1, h2 => by
  have hl : s.data.toList.length = s.size := by simp
  have h0 : s.data.toList.drop i = [] := List.drop_eq_nil_of_le (by omega)
  rw [tokF, ext_fl h1 h2, h0, tkA]
 | f + 1, i, fr, hf, h1, h2 => by
  have hl : s.data.toList.length = s.size := by simp
  have hi : i < s.data.toList.length := by omega
  have hd : s.data.toList.drop i = byteAt s i :: s.data.toList.drop (i + 1) := by
   rw [List.drop_eq_getElem_cons hi]
   unfold byteAt
   rw [List.getD_eq_getElem?_getD, List.getElem?_eq_getElem hi]
   rfl
  rw [tokF, hd, tkA]
  by_cases hb : isD (byteAt s i) = true
  ·rw [if_pos hb, if_pos hb]
   have ih := tokF_tk s f (i + 1) (i + 1) (by omega) (Nat.le_refl _) (by omega)
   rw [Nat.sub_self, List.take_zero] at ih
   rw [← ih, ← ext_fl h1 h2]
   have h3 : tx (signT s i) = sg (byteAt s i) := by
    unfold signT sg
    by_cases h32 : byteAt s i = 32
    ·rw [if_pos h32, if_pos h32]; rfl
    ·rw [if_neg h32, if_neg h32]
     show [s.extract i (i + 1)] = _
     congr 1
     refine ba_ext ?_
     rw [ext_list, hd, show i + 1 - i = 1 by omega]
     rfl
   rw [← h3]
   simp [tx]
  ·rw [if_neg hb, if_neg hb, tokF_tk s f (i + 1) fr (by omega) (by omega) (by omega)]
   congr 1
   rw [show i + 1 - fr = (i - fr) + 1 by omega, List.take_add_one]
   congr 1
   rw [List.getElem?_drop, show fr + (i - fr) = i by omega, List.getElem?_eq_getElem hi]
   unfold byteAt
   rw [List.getD_eq_getElem?_getD, List.getElem?_eq_getElem hi]
   rfl
theorem toks_tk (s : ByteArray) : tx (toks s) = tkS s := by
 unfold toks tokR tkS
 rw [tokF_tk s _ 0 0 rfl (Nat.le_refl _) (Nat.zero_le _)]
 rfl
def szL (L : List ByteArray) : Nat := (L.map ByteArray.size).sum
theorem szL_app (a b : List ByteArray) : szL (a ++ b) = szL a + szL b := by unfold szL; rw [List.map_append, List.sum_append]
theorem szL_cons (a : ByteArray) (b : List ByteArray) : szL (a :: b) = a.size + szL b := by unfold szL; rw [List.map_cons, List.sum_cons]
theorem fl_sz (acc : List UInt8) : szL (fl acc) = acc.length := by
 unfold fl
 split
 ·rename_i h; subst h; rfl
 ·rw [szL_cons]; show acc.toArray.size + 0 = _; simp
theorem tkA_sz : ∀ (l acc : List UInt8), szL (tkA acc l) ≤ acc.length + l.length
 | [], acc => by rw [tkA, fl_sz]; simp
 | b :: l, acc => by
  rw [tkA]
  split
  ·rw [szL_app, szL_app, fl_sz]
   have := tkA_sz l []
   have h2 : szL (sg b) ≤ 1 := by
    unfold sg
    split
    ·exact Nat.zero_le _
    ·rw [szL_cons]; exact Nat.le_refl _
   simp at this ⊢
   omega
  ·have := tkA_sz l (acc ++ [b])
   simp at this ⊢
   omega
/-! ### an atom has no blanks, no brackets -/
theorem leaf_ne {a : Leaf} (h : LeafOk a) : (leafT a).data.toList ≠ [] := by
 intro e
 exact leaf_no (w := leafT a) (by right; right; right; right; right; exact ba_ext e) a ⟨h, rfl⟩
/-! ### the tokens of an own text -/
end Go.Proofs.YthdmpcnnbminlaaGreatDoor.Ru
