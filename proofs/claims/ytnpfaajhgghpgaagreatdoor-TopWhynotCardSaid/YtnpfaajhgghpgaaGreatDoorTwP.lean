/- TopWhynot, plain: what a tale tells, counted anew; its settings. -/
import Derived.Test.YtnpfaajhgghpgaaGreatDoorTlB
namespace Go.Proofs.YtnpfaajhgghpgaaGreatDoor
open Go.Shelf Go.RowKit Go.Maps
open Ru (TabAt Zbx)
set_option linter.unusedVariables false

theorem OnTop.less {es E ds : List Ev} (h : OnTop E ds) (hs : ∀ e ∈ es, e ∈ E) : OnTop es ds :=
  ⟨h.ids, fun e he => h.new e (hs e he), h.kind, fun c hc ⟨f, hf, hk, hp⟩ => h.here c hc ⟨f, hs f hf, hk, hp⟩⟩
theorem tl_kind (x0 x1 x2 x3 : Nat) (num tick : Int) : (tlEv x0 x1 x2 x3 num tick).kind = tlKind (x0 % 16) := by
  unfold tlEv
  split
  · rfl
  split
  · rfl
  split
  · rfl
  split
  · rfl
  split
  · rfl
  · rfl
theorem TEv.kind {e : Ev} (h : TEv e) : e.kind ≠ 14 := by
  obtain ⟨x0, x1, x2, x3, num, tick, hk, _, _, _, _, rfl⟩ := h
  rw [tl_kind]
  have q : ∀ k ∈ List.range 13, tlKind k ≠ 14 := by decide +kernel
  exact q _ (List.mem_range.2 hk)
theorem TEv.ok {e : Ev} (h : TEv e) : EvOk e := by
  have h1 := h.few
  unfold EvFew at h1
  obtain ⟨x0, x1, x2, x3, num, tick, hk, h0, h3, hn, ht, rfl⟩ := h
  refine ⟨TEv.may ⟨x0, x1, x2, x3, num, tick, hk, h0, h3, hn, ht, rfl⟩, ?_⟩
  have a0 := tlNm_size 115 (x0 / 16 % 2) (by omega)
  have a1 := tlNm_size 112 (x1 % 4) (by omega)
  have a2 := tlNm_size 105 (x2 % 6) (by omega)
  have a3 := tlNm_size 109 (x3 % 3) (by omega)
  have a4 := (tlList_ok x3 h3).2
  have e0 : (⟨#[]⟩ : ByteArray).size = 0 := rfl
  unfold tlEv EvLe
  split
  · exact ⟨by dsimp only; omega, by dsimp only; omega, by dsimp only; omega, by dsimp only; omega⟩
  split
  · exact ⟨by dsimp only; omega, by dsimp only; omega, by dsimp only; omega, by dsimp only; omega⟩
  split
  · exact ⟨by dsimp only; omega, by dsimp only; omega, by dsimp only; omega, by dsimp only; omega⟩
  split
  · exact ⟨by dsimp only; omega, by dsimp only; omega, by dsimp only; omega, by dsimp only; omega⟩
  split
  · exact ⟨by dsimp only; omega, by dsimp only; omega, by dsimp only; omega, by dsimp only; omega⟩
  · exact ⟨by dsimp only; omega, by dsimp only; omega, by dsimp only; omega, by dsimp only; omega⟩
theorem tale_ids {ts : List Ev} (h : ts.Pairwise fun x y => ¬ SameId x y) : OneIds ts := h.imp (fun hn hs => hn ⟨hs.1, hs.2⟩)
/-- Where nobody is forgotten, and each identity is one event's, what is counted anew is just what there is. -/
theorem anew_set {fm : Ev → ByteArray} {l E : List Ev} (ho : OneIds l) (hk : ∀ e ∈ l, e.kind ≠ 14) (hE : AnewIs fm l E) (e : Ev) : e ∈ E ↔ e ∈ l := by
  rw [hE.mem]
  constructor
  · exact fun h => (Zbp h.1).1
  · refine fun h => ⟨Zj2 ho h, Or.inr ?_⟩
    rintro ⟨f, h1, h2, _⟩
    exact hk f (Zbp h1).1 h2
/-- The changes' events, told behind a tale's, make the world at the chain's end. -/
theorem tale_all {fm : Ev → ByteArray} {p i : ByteArray} {now crowd span : Int} {r : Option (Option Ru.Nd)} {y0 : Nat} {ts E E2 E3 : List Ev} {l : List (Nat × List Ev)} (ho : OneIds ts) (hk : ∀ e ∈ ts, e.kind ≠ 14) (hE : AnewIs fm ts E) (h : ChainOk p i now crowd span r y0 E l E2) (hE3 : AnewIs fm (ts ++ evsC l) E3) : E3 = E2 := by
  have hm := anew_set ho hk hE
  have ht : OnTop ts (evsC l) := h.top.less (fun e he => (hm e).2 he)
  have ho2 : OneIds (ts ++ evsC l) := List.pairwise_append.2 ⟨ho, ht.ids, fun a ha b hb => ht.new a ha b hb⟩
  have hk2 : ∀ e ∈ ts ++ evsC l, e.kind ≠ 14 := fun e he => (List.mem_append.1 he).elim (hk e) (ht.kind e)
  refine Za3 hE3.sorted h.end_.closed.sorted (fun e => ?_)
  rw [anew_set ho2 hk2 hE3, h.mem, List.mem_append, hm]

theorem chain_head {fm : Ev → ByteArray} {p i : ByteArray} {now crowd span : Int} {r : Option (Option Ru.Nd)} {es E' : List Ev} {l : List (Nat × List Ev)} (h : ChainP fm p i now crowd span r es l E') : (l = [] ∧ whyW es p i now crowd span r = 0) ∨ ∃ x l', l = x :: l' ∧ x.1 = whyW es p i now crowd span r ∧ x.1 ≠ 0 := by
  cases h with
  | stop h => exact Or.inl ⟨rfl, h⟩
  | none h h0 hc => exact Or.inr ⟨_, _, rfl, h.symm, h0⟩
  | more h h0 hc hne hE ht => exact Or.inr ⟨_, _, rfl, h.symm, h0⟩

open Ru (Nd) in
theorem chain_len {fm : Ev → ByteArray} {p i : ByteArray} {now crowd span : Int} {r : Option (Option Nd)} {es E' : List Ev} {l : List (Nat × List Ev)} (hcr : crowd ≤ 12) (h : ChainP fm p i now crowd span r es l E') : ∀ x ∈ l, x.2.length ≤ 12 := by
  induction h with
  | stop h => intro x hx; cases hx
  | none h h0 hc => intro x hx; rw [List.mem_singleton.1 hx]; simp
  | @more es cs E E' l y h h0 hc hne hE ht ih =>
    intro x hx
    rcases List.mem_cons.1 hx with rfl | hx
    · subst hc
      exact Zhg hcr
    · exact ih x hx
theorem evsC_ok {p i : ByteArray} {now crowd span : Int} {r : Option (Option Ru.Nd)} {y0 : Nat} {es E' : List Ev} {l : List (Nat × List Ev)} (h : ChainOk p i now crowd span r y0 es l E') : ∀ e ∈ evsC l, EvOk e := by
  intro e he
  unfold evsC at he
  obtain ⟨x, hx, he⟩ := List.mem_flatMap.1 he
  exact (h.evs x hx e he).1
/-! ### settings -/
def tlCfg (y : Nat → Nat) : Cfg := ⟨1 + 10 * (y 0 : Int), 1 + ((y 1 % 20 : Nat) : Int), 1 + ((y 2 % 50 : Nat) : Int), (1 + ((y 1 % 20 : Nat) : Int)) * (1 + ((y 3 % 4 : Nat) : Int)), ((y 4 % 3 : Nat) : Int), ((y 5 % 3 : Nat) : Int)⟩
def tlSg (y : Nat → Nat) : Sg := ⟨tlCfg y, 100, 100, 100, 100, 100, 100, 4, 2, 3, 1073741824, 0, 5, ((y 6 % 4 : Nat) : Int), ⟨#[115, 116, 111, 99, 107, 62, 48]⟩, ⟨#[111, 119, 110]⟩, ((y 7 : Nat) : Int)⟩
theorem tlSg_arr (y : Nat → Nat) : sgArr (tlSg y) = tsArr y 6 := rfl
theorem tlCfg_ok {y : Nat → Nat} (h : ∀ j, y j < 256) : CfgOk (tlCfg y) := by
  have h0 := h 0
  have h1 : (1 + ((y 1 % 20 : Nat) : Int)) * (1 + ((y 3 % 4 : Nat) : Int)) ≤ 20 * 4 := Int.mul_le_mul (by omega) (by omega) (by omega) (by omega)
  have h2 : 1 * 1 ≤ (1 + ((y 1 % 20 : Nat) : Int)) * (1 + ((y 3 % 4 : Nat) : Int)) := Int.mul_le_mul (by omega) (by omega) (by omega) (by omega)
  refine ⟨?_, ?_, ?_, ?_, ?_, ?_, ?_⟩
  · show 1 ≤ 1 + 10 * (y 0 : Int) ∧ 1 + 10 * (y 0 : Int) ≤ 1099511627776
    omega
  · show 1 ≤ 1 + ((y 1 % 20 : Nat) : Int) ∧ 1 + ((y 1 % 20 : Nat) : Int) ≤ 1099511627776
    omega
  · show 1 ≤ (1 + ((y 1 % 20 : Nat) : Int)) * (1 + ((y 3 % 4 : Nat) : Int)) ∧ (1 + ((y 1 % 20 : Nat) : Int)) * (1 + ((y 3 % 4 : Nat) : Int)) ≤ 1099511627776
    omega
  · show (1 + ((y 1 % 20 : Nat) : Int)) * (1 + ((y 3 % 4 : Nat) : Int)) % (1 + ((y 1 % 20 : Nat) : Int)) = 0
    exact Int.mul_emod_right _ _
  · show 0 ≤ 1 + ((y 2 % 50 : Nat) : Int) ∧ 1 + ((y 2 % 50 : Nat) : Int) ≤ 1099511627776
    omega
  · show 0 ≤ ((y 4 % 3 : Nat) : Int) ∧ ((y 4 % 3 : Nat) : Int) ≤ 1048576
    omega
  · show 0 ≤ ((y 5 % 3 : Nat) : Int) ∧ ((y 5 % 3 : Nat) : Int) ≤ 1048576
    omega
open Ru (Says Nd) in
theorem tlSg_ok {y : Nat → Nat} (h : ∀ j, y j < 256) : ∃ r a, Says (tlSg y).rule (some r) a ∧ SgOk (tlSg y) r := by
  obtain ⟨r, a, hs, _⟩ := Ru.Zth 1
  have hs' : Says (tlSg y).rule (some r) a := hs
  exact ⟨r, a, hs', ⟨tlCfg_ok h, by show 0 ≤ (1073741824 : Int) ∧ (1073741824 : Int) ≤ 1099511627776; omega, by show 0 ≤ (0 : Int) ∧ (0 : Int) ≤ 1099511627776; omega, by show 0 ≤ (5 : Int) ∧ (5 : Int) ≤ 1000; omega, by show 0 ≤ ((y 6 % 4 : Nat) : Int) ∧ ((y 6 % 4 : Nat) : Int) ≤ 1000; omega, by show nameB ⟨#[111, 119, 110]⟩ = true; decide +kernel, by show 7 ≤ 1000; omega, ⟨a, hs'⟩⟩⟩
/-- The settings of a tale, all that is wanted of them. -/
theorem tl_sg {y : Nat → Nat} (h : ∀ j, y j < 256) : ∃ s r a, sgArr s = tsArr y 6 ∧ SgOk s r ∧ Ru.Says s.rule (some r) a ∧ s.cfg.crowd ≤ 12 ∧ s.rule.size ≤ 1000 := by
  obtain ⟨r, a, h1, h2⟩ := tlSg_ok h
  exact ⟨tlSg y, r, a, rfl, h2, h1, by show ((y 5 % 3 : Nat) : Int) ≤ 12; omega, h2.rsz⟩
theorem tl_told (a b : Nat) (ha : a < 4) (hb : b < 6) {now : Int} (hn : 0 ≤ now ∧ now ≤ 100000) : toldB (tlNm 112 a) (tlNm 105 b) now = true := by
  unfold toldB
  rw [tlNm_name 112 a (by simp) (by omega), tlNm_name 105 b (by simp) hb, decide_eq_true hn.1, decide_eq_true (by omega : now ≤ 1099511627776)]
  rfl
end Go.Proofs.YtnpfaajhgghpgaaGreatDoor
