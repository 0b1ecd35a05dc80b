/- Weight. -/
import Derived.Test.YtnkglbiakjnfjaaDoorCrCt
import Derived.Laws.BitsAllLaws
import Derived.IntWalk
namespace Go.Proofs.YtnkglbiakjnfjaaDoor
open Go.Shelf Go.RowKit Go.Maps
set_option linter.unusedVariables false

/-- The weight of an age. -/
def wgtP (age half : Int) : Int := if age < 0 then 0 else if 20 < age / half then 0 else 1048576 / 2 ^ (age / half).toNat

set_option maxHeartbeats 2000000 in
theorem weight_any (age half : Int) (w : World) (h1 : 1 ≤ half) (h2 : half ≤ 1099511627776) (h3 : -8796093022208 ≤ age) (h4 : age ≤ 8796093022208) :
    Calls Tryd.prog 42 #[.int .i64 age, .int .i64 half] w fun e w' => e = .returned (.int .i64 (wgtP age half)) ∧ w = w' := by
  by_cases ha : age < 0
  · have HW : Hid (wgtP age half = 0) := Lib.hid (by unfold wgtP; rw [if_pos ha])
    go_enter Tryd.func42, Tryd.ntmps42
    go_wp2
    go_ret
    exact ⟨ret_int HW.out.symm, rfl⟩
  have hm : max half 1 = half := by omega
  obtain ⟨q, hq⟩ : ∃ q, age / half = q := ⟨_, rfl⟩
  have hq0 : 0 ≤ q := by rw [← hq]; exact Int.ediv_nonneg (by omega) (by omega)
  have hqb : q ≤ 8796093022208 := by rw [← hq]; exact Int.le_trans (Int.ediv_le_self _ (by omega)) h4
  have HW : Hid (wgtP age half = if 20 < q then 0 else 1048576 / 2 ^ q.toNat) := Lib.hid (by unfold wgtP; rw [if_neg ha, hq])
  have ha0 : 0 ≤ age := by omega
  have hqt : age.tdiv half = q := by rw [Int.tdiv_eq_ediv_of_nonneg ha0]; exact hq
  by_cases h20 : 20 < q
  · have HW2 : Hid (wgtP age half = 0) := Lib.hid (by rw [HW.out, if_pos h20])
    go_enter Tryd.func42, Tryd.ntmps42
    go_wp2
    go_ret
    exact ⟨ret_int HW2.out.symm, rfl⟩
  have HW2 : Hid (wgtP age half = 1048576 / 2 ^ q.toNat) := Lib.hid (by rw [HW.out, if_neg h20])
  go_enter Tryd.func42, Tryd.ntmps42
  go_wp2
  go_ret
  exact ⟨ret_int HW2.out.symm, rfl⟩

theorem wgt_bd (age half : Int) : 0 ≤ wgtP age half ∧ wgtP age half ≤ 1048576 := by
  unfold wgtP
  split
  · omega
  · split
    · omega
    · have hp : (0 : Int) < 2 ^ (age / half).toNat := Int.pow_pos (by omega)
      exact ⟨Int.ediv_nonneg (by omega) (by omega), Int.ediv_le_self _ (by omega)⟩
theorem worth_bd {e : Ev} (h : mayB e = true) : 0 ≤ worthP e ∧ worthP e ≤ 5 := by
  unfold worthP
  split
  · omega
  · split
    · omega
    · split
      · omega
      · split
        · rename_i h1 h2 h3 h4
          unfold mayB at h
          simp only [Bool.and_eq_true] at h
          have hk := h.2.2.2
          unfold kindB at hk
          rw [if_neg (by omega), if_pos h4] at hk
          simp only [Bool.and_eq_true, decide_eq_true_eq] at hk
          omega
        · omega
theorem mul_bd {a b : Int} (ha : 0 ≤ a ∧ a ≤ 5) (hb : 0 ≤ b ∧ b ≤ 1048576) : 0 ≤ a * b ∧ a * b ≤ 5242880 := by
  refine ⟨Int.mul_nonneg ha.1 hb.1, ?_⟩
  have h1 : a * b ≤ 5 * b := Int.mul_le_mul_of_nonneg_right ha.2 hb.1
  omega
theorem may_tick {e : Ev} (h : mayB e = true) : 0 ≤ e.tick ∧ e.tick ≤ 1099511627776 := by
  unfold mayB at h
  simp only [Bool.and_eq_true, decide_eq_true_eq] at h
  exact h.2.2.1

/-! ### sums of a taste -/
structure Sk where
  S : ByteArray → Int
  K : ByteArray → Bool
def sk0 : Sk := ⟨fun _ => 0, fun _ => false⟩
/-- So much more of a tag. -/
def skT (n : Int) (s : Sk) (t : ByteArray) : Sk := ⟨fun u => if u = t then s.S t + n else s.S u, fun u => decide (u = t) || s.K u⟩
def rowW (half now : Int) (r : Rw) : Int := worthP r.e * wgtP (now - r.e.tick) half
def skR (half now : Int) (s : Sk) (r : Rw) : Sk := if r.e.tick ≤ now then r.ts.foldl (skT (rowW half now r)) s else s
def skL (half now : Int) (l : List Rw) : Sk := l.foldl (skR half now) sk0
theorem skL_snoc (half now : Int) (l : List Rw) (r : Rw) : skL half now (l ++ [r]) = skR half now (skL half now l) r := by unfold skL; rw [List.foldl_append]; rfl
def skG (s : Sk) : ByteArray → Option Value := fun t => if s.K t then some (.int .i64 (s.S t)) else none
def SkOk (s : Sk) (c : Nat) : Prop := (∀ t, s.K t = false → s.S t = 0) ∧ ∀ t, 0 ≤ s.S t ∧ s.S t ≤ c * 5242880
theorem SkOk.zero : SkOk sk0 0 := ⟨fun _ _ => rfl, fun _ => by simp [sk0]⟩
theorem SkOk.mono {s : Sk} {c c' : Nat} (h : SkOk s c) (hc : c ≤ c') : SkOk s c' := ⟨h.1, fun t => ⟨(h.2 t).1, by have := (h.2 t).2; omega⟩⟩
theorem SkOk.add {s : Sk} {c : Nat} (h : SkOk s c) {n : Int} (hn : 0 ≤ n ∧ n ≤ 5242880) (t : ByteArray) : SkOk (skT n s t) (c + 1) := by
  refine ⟨fun u hu => ?_, fun u => ?_⟩
  · unfold skT at hu ⊢
    simp only [Bool.or_eq_false_iff, decide_eq_false_iff_not] at hu ⊢
    rw [if_neg hu.1]
    exact h.1 u hu.2
  · unfold skT
    simp only
    have h1 := h.2 t
    have h2 := h.2 u
    split <;> omega
theorem skG_get {s : Sk} {c : Nat} (h : SkOk s c) (t : ByteArray) : (skG s t).getD (.int .i64 0) = .int .i64 (s.S t) := by
  unfold skG
  cases hk : s.K t
  · rw [h.1 t hk]; rfl
  · rfl
theorem skG_upd (s : Sk) (t : ByteArray) (n : Int) : ∀ kl, upd (mapG (skG s)) (.string t.data.toList) (.int .i64 (s.S t + n)) kl = mapG (skG (skT n s t)) kl := fun kl => by
  rw [mapG_upd]
  cases kl with
  | string l =>
    show updG (skG s) t _ _ = skG (skT n s t) _
    unfold updG skG skT
    by_cases h : (⟨l.toArray⟩ : ByteArray) = t <;> simp [h]
  | _ => rfl
theorem sk_nonneg {half now : Int} {l : List Rw} (h : ∀ r ∈ l, mayB r.e = true) {r : Rw} (hr : r ∈ l) : 0 ≤ rowW half now r ∧ rowW half now r ≤ 5242880 := mul_bd (worth_bd (h r hr)) (wgt_bd _ _)
/-- What a taste is. -/
def IsTaste (rs : List Rw) (half : Int) (p : ByteArray) (now : Int) (L : List Ct) : Prop := L.Pairwise (fun x y => cmpCI x y < 0) ∧ ∀ x, x ∈ L ↔ 0 < x.n ∧ x.n = (skL half now (ownC rs p)).S x.key
theorem IsTaste.one {rs rs' : List Rw} {half half' : Int} {p p' : ByteArray} {now now' : Int} {L L' : List Ct} (h : IsTaste rs half p now L) (h' : IsTaste rs' half' p' now' L') (he : ∀ t, (skL half now (ownC rs p)).S t = (skL half' now' (ownC rs' p')).S t) : L = L' :=
  one_sorted (fun a h => by rw [(cmpC_tri.zero a a).2 rfl] at h; omega) (fun a b c => cmpC_tri.trans a b c) h.1 h'.1 (fun x => by rw [h.2, h'.2, he])

end Go.Proofs.YtnkglbiakjnfjaaDoor
