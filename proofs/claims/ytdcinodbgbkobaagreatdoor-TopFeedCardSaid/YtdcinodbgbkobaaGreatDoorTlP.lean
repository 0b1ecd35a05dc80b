/- A tale, plain: what its steps tell. -/
import Derived.Test.YtdcinodbgbkobaaGreatDoorGd
import Derived.Lib.Join
import Derived.Lib.ItoaLen
namespace Go.Proofs.YtdcinodbgbkobaaGreatDoor
open Go.Shelf Go.RowKit Go.Maps
set_option linter.unusedVariables false

/-- A letter and a number. -/
def tlNm (c : UInt8) (n : Nat) : ByteArray := ⟨#[c]⟩ ++ ⟨(Lib.itoa (n : Int)).toArray⟩
def tlKind (k : Nat) : Int := ([1, 2, 3, 4, 0, 5, 6, 7, 9, 11, 11, 12, 13] : List Int).getD k 0
def tlBit (v i : Nat) : Bool := decide (v / 4 / 2 ^ i % 2 = 1)
def tlTag (v : Nat) : List ByteArray := ([0, 1, 2].filter (tlBit v)).map (tlNm 116)
def tlTags (v : Nat) : ByteArray := ⟨(Lib.join ((tlTag v).map (·.data.toList)) [44]).toArray⟩
/-- The text of a listing. -/
def tlList (m : ByteArray) (v : Nat) : ByteArray := m ++ ⟨#[59]⟩ ++ tlTags v
/-- The event of a step that tells one. -/
def tlEv (x0 x1 x2 x3 : Nat) (num tick : Int) : Ev :=
  if tlKind (x0 % 16) = 7 ∨ tlKind (x0 % 16) = 9 then ⟨tlNm 115 (x0 / 16 % 2), num, max (tick - 5 * (x0 / 32 : Nat)) 0, tlKind (x0 % 16), tlNm 112 (x1 % 4), ⟨#[]⟩, 0, tlNm 109 (x3 % 3)⟩
  else if tlKind (x0 % 16) = 11 then ⟨tlNm 115 (x0 / 16 % 2), num, max (tick - 5 * (x0 / 32 : Nat)) 0, tlKind (x0 % 16), ⟨#[]⟩, tlNm 105 (x2 % 6), x3, tlList (tlNm 109 (x3 % 3)) x3⟩
  else if tlKind (x0 % 16) = 12 then ⟨tlNm 115 (x0 / 16 % 2), num, max (tick - 5 * (x0 / 32 : Nat)) 0, tlKind (x0 % 16), ⟨#[]⟩, tlNm 105 (x2 % 6), (x3 % 3 : Nat), ⟨#[]⟩⟩
  else if tlKind (x0 % 16) = 13 then ⟨tlNm 115 (x0 / 16 % 2), num, max (tick - 5 * (x0 / 32 : Nat)) 0, tlKind (x0 % 16), ⟨#[]⟩, tlNm 105 (x2 % 6), 0, ⟨#[]⟩⟩
  else if tlKind (x0 % 16) = 4 then ⟨tlNm 115 (x0 / 16 % 2), num, max (tick - 5 * (x0 / 32 : Nat)) 0, tlKind (x0 % 16), tlNm 112 (x1 % 4), tlNm 105 (x2 % 6), 1 + (x3 % 5 : Nat), ⟨#[]⟩⟩
  else ⟨tlNm 115 (x0 / 16 % 2), num, max (tick - 5 * (x0 / 32 : Nat)) 0, tlKind (x0 % 16), tlNm 112 (x1 % 4), tlNm 105 (x2 % 6), 0, ⟨#[]⟩⟩

/-! ### what is told may be -/
theorem tlNm_name (c : UInt8) (n : Nat) (hc : c = 115 ∨ c = 112 ∨ c = 105 ∨ c = 109) (hn : n < 6) : nameB (tlNm c n) = true := by
  have h : ∀ c ∈ [(115 : UInt8), 112, 105, 109], ∀ n ∈ [0, 1, 2, 3, 4, 5], nameB (tlNm c n) = true := by decide +kernel
  refine h c ?_ n ?_
  · rcases hc with rfl | rfl | rfl | rfl <;> simp
  · have : n = 0 ∨ n = 1 ∨ n = 2 ∨ n = 3 ∨ n = 4 ∨ n = 5 := by omega
    rcases this with rfl | rfl | rfl | rfl | rfl | rfl <;> simp
theorem tlList_ok (v : Nat) (h : v < 256) : listB (tlList (tlNm 109 (v % 3)) v) = true ∧ (tlList (tlNm 109 (v % 3)) v).size ≤ 20 := by
  have h2 : ((List.range 256).all fun v => listB (tlList (tlNm 109 (v % 3)) v) && decide ((tlList (tlNm 109 (v % 3)) v).size ≤ 20)) = true := by decide +kernel
  rw [List.all_eq_true] at h2
  have := h2 v (List.mem_range.2 h)
  rwa [Bool.and_eq_true, decide_eq_true_iff] at this
theorem tlNm_size (c : UInt8) (n : Nat) (hn : n < 6) : (tlNm c n).size = 2 := by
  have h : ∀ n ∈ [0, 1, 2, 3, 4, 5], (⟨(Lib.itoa ((n : Nat) : Int)).toArray⟩ : ByteArray).size = 1 := by decide +kernel
  have hm : n ∈ [0, 1, 2, 3, 4, 5] := by
    have : n = 0 ∨ n = 1 ∨ n = 2 ∨ n = 3 ∨ n = 4 ∨ n = 5 := by omega
    rcases this with rfl | rfl | rfl | rfl | rfl | rfl <;> simp
  unfold tlNm
  rw [ByteArray.size_append, h n hm]
  rfl
/-- What a tale tells: by four bytes. -/
def TEv (e : Ev) : Prop := ∃ x0 x1 x2 x3 : Nat, ∃ num tick : Int, x0 % 16 < 13 ∧ x0 < 256 ∧ x3 < 256 ∧ (1 ≤ num ∧ num ≤ 1000) ∧ (0 ≤ tick ∧ tick ≤ 100000) ∧ e = tlEv x0 x1 x2 x3 num tick
theorem tlEv_few (x0 x1 x2 x3 : Nat) (num tick : Int) (h3 : x3 < 256) : EvFew (tlEv x0 x1 x2 x3 num tick) := by
  have a0 := tlNm_size 115 (x0 / 16 % 2) (by omega)
  have a1 := tlNm_size 112 (x1 % 4) (by omega)
  have a2 := tlNm_size 105 (x2 % 6) (by omega)
  have a3 := tlNm_size 109 (x3 % 3) (by omega)
  have a4 := (tlList_ok x3 h3).2
  have e0 : (⟨#[]⟩ : ByteArray).size = 0 := rfl
  unfold tlEv EvFew
  split
  · dsimp only; omega
  split
  · dsimp only; omega
  split
  · dsimp only; omega
  split
  · dsimp only; omega
  split
  · dsimp only; omega
  · dsimp only; omega
theorem tlEv_tick (x0 x1 x2 x3 : Nat) (num tick : Int) : (tlEv x0 x1 x2 x3 num tick).tick = max (tick - 5 * (x0 / 32 : Nat)) 0 ∧ (tlEv x0 x1 x2 x3 num tick).src = tlNm 115 (x0 / 16 % 2) ∧ (tlEv x0 x1 x2 x3 num tick).num = num := by
  unfold tlEv
  split
  · exact ⟨rfl, rfl, rfl⟩
  split
  · exact ⟨rfl, rfl, rfl⟩
  split
  · exact ⟨rfl, rfl, rfl⟩
  split
  · exact ⟨rfl, rfl, rfl⟩
  split
  · exact ⟨rfl, rfl, rfl⟩
  · exact ⟨rfl, rfl, rfl⟩
theorem TEv.few {e : Ev} (h : TEv e) : EvFew e := by
  obtain ⟨x0, x1, x2, x3, num, tick, _, _, h3, _, _, rfl⟩ := h
  exact tlEv_few _ _ _ _ _ _ h3
theorem TEv.may {e : Ev} (h : TEv e) : mayB e = true := by
  obtain ⟨x0, x1, x2, x3, num, tick, hk, h0, h3, hn, ht, rfl⟩ := h
  obtain ⟨t1, t2, t3⟩ := tlEv_tick x0 x1 x2 x3 num tick
  have q : x0 % 16 = 0 ∨ x0 % 16 = 1 ∨ x0 % 16 = 2 ∨ x0 % 16 = 3 ∨ x0 % 16 = 4 ∨ x0 % 16 = 5 ∨ x0 % 16 = 6 ∨ x0 % 16 = 7 ∨ x0 % 16 = 8 ∨ x0 % 16 = 9 ∨ x0 % 16 = 10 ∨ x0 % 16 = 11 ∨ x0 % 16 = 12 := by omega
  have hp := tlNm_name 112 (x1 % 4) (by simp) (by omega)
  have hi := tlNm_name 105 (x2 % 6) (by simp) (by omega)
  have hm := tlNm_name 109 (x3 % 3) (by simp) (by omega)
  have hl := (tlList_ok x3 h3).1
  unfold mayB
  rw [t1, t2, t3, tlNm_name 115 _ (by simp) (by omega), decide_eq_true (by omega), decide_eq_true (by omega), Bool.true_and, Bool.true_and, Bool.true_and]
  have em : empB ⟨#[]⟩ = true := by decide +kernel
  unfold tlEv
  rcases q with q | q | q | q | q | q | q | q | q | q | q | q | q <;> rw [q] <;> simp [tlKind, kindB, hp, hi, hm, hl, em] <;> omega

/-! ### steps -/
structure Stp where
  what : Int
  ev : Ev
  person : ByteArray
  now : Int
  keep : Int
  of_ : Int
def stpC (s : Stp) : List Value := .int .i64 s.what :: (evC s.ev ++ [.string s.person, .int .i64 s.now, .int .i64 s.keep, .int .i64 s.of_])
theorem stpC_len (s : Stp) : (stpC s).length = 13 := rfl
def evZ0 : Ev := ⟨⟨#[]⟩, 0, 0, 0, ⟨#[]⟩, ⟨#[]⟩, 0, ⟨#[]⟩⟩
def tlTells (L : List Stp) : List Ev := (L.filter fun s => decide (s.what = 0)).map (·.ev)
theorem tells_snoc (L : List Stp) (s : Stp) : tlTells (L ++ [s]) = tlTells L ++ (if s.what = 0 then [s.ev] else []) := by
  unfold tlTells
  rw [List.filter_append, List.map_append, List.filter_cons]
  by_cases h : s.what = 0 <;> simp [h]
def SameId (a b : Ev) : Prop := a.src = b.src ∧ a.num = b.num
def tlCnt (a b : Nat) (s : Nat) : Nat := if s = 0 then a else b
/-- What holds as far as a tale is told: so many events of each source. -/
structure TlI (a b : Nat) (E : Int) (L : List Stp) : Prop where
  ev : ∀ e ∈ tlTells L, TEv e ∧ e.tick ≤ E ∧ ∃ s : Nat, s < 2 ∧ e.src = tlNm 115 s ∧ e.num ≤ tlCnt a b s
  ids : (tlTells L).Pairwise fun x y => ¬ SameId x y
  pos : 1000 ≤ E ∧ E ≤ 1000 + 15 * L.length
  few : a + b ≤ L.length
theorem TlI.start : TlI 0 0 1000 [] := ⟨fun e he => by (cases he), List.Pairwise.nil, by simp, by simp⟩
theorem tlNm_inj {a b : Nat} (ha : a < 2) (hb : b < 2) (h : tlNm 115 a = tlNm 115 b) : a = b := by
  have q : ∀ a ∈ [0, 1], ∀ b ∈ [0, 1], (tlNm 115 a).data.toList = (tlNm 115 b).data.toList → a = b := by decide +kernel
  have ma : ∀ a : Nat, a < 2 → a ∈ [0, 1] := fun a h => by
    have : a = 0 ∨ a = 1 := by omega
    rcases this with rfl | rfl <;> simp
  exact q a (ma a ha) b (ma b hb) (by rw [h])
/-- A step that tells nothing. -/
theorem TlI.other {a b : Nat} {E : Int} {L : List Stp} (h : TlI a b E L) {s : Stp} (hs : s.what ≠ 0) {d : Nat} (hd : d < 16) : TlI a b (E + d) (L ++ [s]) := by
  obtain ⟨h1, h2, h3, h4⟩ := h
  have e : tlTells (L ++ [s]) = tlTells L := by rw [tells_snoc, if_neg hs, List.append_nil]
  refine ⟨fun x hx => ?_, by rw [e]; exact h2, ?_, ?_⟩
  · rw [e] at hx
    obtain ⟨k1, k2, k3⟩ := h1 x hx
    exact ⟨k1, by omega, k3⟩
  · rw [List.length_append, List.length_singleton]; omega
  · rw [List.length_append, List.length_singleton]; omega
/-- One that tells an event. -/
theorem TlI.told {a b : Nat} {E : Int} {L : List Stp} (h : TlI a b E L) {x0 x1 x2 x3 : Nat} (hk : x0 % 16 < 13) (h0 : x0 < 256) (h3 : x3 < 256) (hL : L.length ≤ 100) {p : ByteArray} {n k o : Int} {d : Nat} (hd : d < 16) :
    TlI (if x0 / 16 % 2 = 0 then a + 1 else a) (if x0 / 16 % 2 = 0 then b else b + 1) (E + d) (L ++ [⟨0, tlEv x0 x1 x2 x3 ((tlCnt a b (x0 / 16 % 2) : Nat) + 1) E, p, n, k, o⟩]) := by
  obtain ⟨h1, h2, h3', h4⟩ := h
  obtain ⟨t1, t2, t3⟩ := tlEv_tick x0 x1 x2 x3 ((tlCnt a b (x0 / 16 % 2) : Nat) + 1) E
  obtain ⟨z, hz⟩ : ∃ z, x0 / 16 % 2 = z := ⟨_, rfl⟩
  have hz2 : z < 2 := by omega
  have hTE : TEv (tlEv x0 x1 x2 x3 ((tlCnt a b (x0 / 16 % 2) : Nat) + 1) E) := ⟨x0, x1, x2, x3, _, _, hk, h0, h3, by rw [hz]; unfold tlCnt; split <;> omega, by omega, rfl⟩
  generalize hX : tlEv x0 x1 x2 x3 ((tlCnt a b (x0 / 16 % 2) : Nat) + 1) E = X at *
  rw [hz] at t2 t3 ⊢
  have e : tlTells (L ++ [⟨0, X, p, n, k, o⟩]) = tlTells L ++ [X] := by rw [tells_snoc, if_pos rfl]
  refine ⟨fun x hx => ?_, ?_, ?_, ?_⟩
  · rw [e] at hx
    rcases List.mem_append.1 hx with hx | hx
    · obtain ⟨k1, k2, s, k3, k4, k5⟩ := h1 x hx
      refine ⟨k1, by omega, s, k3, k4, ?_⟩
      unfold tlCnt at k5 ⊢
      split at k5 <;> (repeat' split) <;> omega
    · rw [List.mem_singleton] at hx
      subst hx
      refine ⟨hTE, by rw [t1]; omega, z, hz2, t2, ?_⟩
      rw [t3]
      unfold tlCnt
      (repeat' split) <;> omega
  · rw [e]
    refine List.pairwise_append.2 ⟨h2, List.pairwise_singleton _ _, fun x hx y hy => ?_⟩
    rw [List.mem_singleton] at hy
    subst hy
    obtain ⟨_, _, s, k3, k4, k5⟩ := h1 x hx
    rintro ⟨i1, i2⟩
    rw [k4, t2] at i1
    have := tlNm_inj k3 hz2 i1
    subst this
    rw [t3] at i2
    omega
  · rw [List.length_append, List.length_singleton]; omega
  · rw [List.length_append, List.length_singleton]; split <;> omega
end Go.Proofs.YtdcinodbgbkobaaGreatDoor
