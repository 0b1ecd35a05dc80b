/- Events in memory; cmp.Compare, strings.Compare, cmp.Or, event.Compare. -/
import Derived.Test.YtikbckpphkpaiaaDoorEvTags
import Derived.Lib.Bytealg
namespace Go.Proofs.YtikbckpphkpaiaaDoor
open Go.Shelf Go.RowKit Go.Maps
set_option linter.unusedVariables false

structure Ev where
  src : ByteArray
  num : Int
  tick : Int
  kind : Int
  person : ByteArray
  item : ByteArray
  value : Int
  text : ByteArray

def evC (x : Ev) : List Value := [.string x.src, .int .i64 x.num, .int .i64 x.tick, .int .i64 x.kind, .string x.person, .string x.item, .int .i64 x.value, .string x.text]
theorem evC_len (x : Ev) : (evC x).length = 8 := rfl
def evA (x : Ev) : Value := .agg #[.string x.src, .int .i64 x.num, .int .i64 x.tick, .int .i64 x.kind, .string x.person, .string x.item, .int .i64 x.value, .string x.text]
theorem evC_one : ∀ (l : List Ev), ∀ u ∈ l.flatMap evC, u.oneCell' = true := by
  intro l u hu
  obtain ⟨x, _, hx⟩ := List.mem_flatMap.1 hu
  simp [evC] at hx
  rcases hx with rfl | rfl | rfl | rfl | rfl | rfl | rfl | rfl <;> rfl
theorem ev_info : (Tryd.prog.info? 37).map (fun i => (i.zero, i.size, i.bytes)) = some (some (.agg #[.string ⟨#[]⟩, .int .i64 0, .int .i64 0, .int .i64 0, .string ⟨#[]⟩, .string ⟨#[]⟩, .int .i64 0, .string ⟨#[]⟩]), 8, 96) := by kernel_rfl
/-- An event lies at off in block b. -/
def EvAt (w : World) (b off : Nat) (x : Ev) : Prop :=
  w.cell? ⟨b, off, none⟩ = some (.string x.src) ∧ w.cell? ⟨b, off + 1, none⟩ = some (.int .i64 x.num) ∧ w.cell? ⟨b, off + 2, none⟩ = some (.int .i64 x.tick) ∧ w.cell? ⟨b, off + 3, none⟩ = some (.int .i64 x.kind) ∧
  w.cell? ⟨b, off + 4, none⟩ = some (.string x.person) ∧ w.cell? ⟨b, off + 5, none⟩ = some (.string x.item) ∧ w.cell? ⟨b, off + 6, none⟩ = some (.int .i64 x.value) ∧ w.cell? ⟨b, off + 7, none⟩ = some (.string x.text)
theorem EvAt.keep {w w' : World} {b off : Nat} {x : Ev} (h : EvAt w b off x) (hk : ∀ j, w'.cell? ⟨b, j, none⟩ = w.cell? ⟨b, j, none⟩) : EvAt w' b off x := by
  obtain ⟨h0, h1, h2, h3, h4, h5, h6, h7⟩ := h
  exact ⟨(hk _).trans h0, (hk _).trans h1, (hk _).trans h2, (hk _).trans h3, (hk _).trans h4, (hk _).trans h5, (hk _).trans h6, (hk _).trans h7⟩
/-- A slice of events. -/
def EvsAt (w : World) (B : Nat) (A : Option Addr) (l : List Ev) : Prop := RowIn w B 8 A l.length (l.flatMap evC)
theorem EvsAt.at {w : World} {B : Nat} {A : Option Addr} {l : List Ev} (h : EvsAt w B A l) (hl : 0 < l.length) : ∃ b off, A = some ⟨b, off, none⟩ ∧ b < B ∧ ∀ i x, l[i]? = some x → EvAt w b (off + i * 8) x := by
  obtain ⟨b, off, hA, hb, hc⟩ := RowIn.at h hl
  refine ⟨b, off, hA, hb, fun i x hx => ?_⟩
  have g := fun j (hj : j < 8) => flat_get evC 8 evC_len l i j x hx hj
  have k := fun j (hj : j < 8) u (hu : (evC x)[j]? = some u) => hc (i * 8 + j) u ((g j hj).trans hu)
  refine ⟨k 0 (by omega) _ rfl, ?_, ?_, ?_, ?_, ?_, ?_, ?_⟩
  · have := k 1 (by omega) _ rfl; rw [← Nat.add_assoc] at this; exact this
  · have := k 2 (by omega) _ rfl; rw [← Nat.add_assoc] at this; exact this
  · have := k 3 (by omega) _ rfl; rw [← Nat.add_assoc] at this; exact this
  · have := k 4 (by omega) _ rfl; rw [← Nat.add_assoc] at this; exact this
  · have := k 5 (by omega) _ rfl; rw [← Nat.add_assoc] at this; exact this
  · have := k 6 (by omega) _ rfl; rw [← Nat.add_assoc] at this; exact this
  · have := k 7 (by omega) _ rfl; rw [← Nat.add_assoc] at this; exact this
theorem EvsAt.below {w w' : World} {B : Nat} {A : Option Addr} {l : List Ev} (h : EvsAt w B A l) (hb : Below B w w') : EvsAt w' B A l := RowIn.below h hb
theorem EvsAt.kept {w w' : World} {B : Nat} {A : Option Addr} {l : List Ev} {S : Nat → Prop} (h : EvsAt w B A l) (k : Kept S w w') (hB : B ≤ w.heap.size) (hS : ∀ i, i < B → ¬ S i) : EvsAt w' B A l := RowIn.kept h k hB hS

theorem ret_int {k : IntKind} {a b : Int} (h : a = b) : Ending.returned (.int k a) = .returned (.int k b) := by rw [h]

def cmpI (a b : Int) : Int := if a < b then -1 else if b < a then 1 else 0
def cmpB (a b : ByteArray) : Int := Lib.compareBytes a.data.toList b.data.toList

theorem cmpI_any (a b : Int) (w : World) : Calls Tryd.prog 61 #[.int .i64 a, .int .i64 b] w fun e w' => e = .returned (.int .i64 (cmpI a b)) ∧ w = w' := by
  have n1 : (a != a) = false := by simp
  have n2 : (b != b) = false := by simp
  by_cases h1 : a < b
  · go_enter Tryd.func61, Tryd.ntmps61
    go_wp2
    go_ret
    exact ⟨ret_int (by simp [cmpI, h1]), rfl⟩
  · by_cases h2 : b < a
    · go_enter Tryd.func61, Tryd.ntmps61
      go_wp2
      go_ret
      exact ⟨ret_int (by unfold cmpI; rw [if_neg (by omega), if_pos h2]), rfl⟩
    · go_enter Tryd.func61, Tryd.ntmps61
      go_wp2
      go_ret
      exact ⟨ret_int (by unfold cmpI; rw [if_neg (by omega), if_neg (by omega)]), rfl⟩

set_option maxHeartbeats 1000000 in
set_option maxRecDepth 100000 in
theorem cmpstr_any (a b : ByteArray) (w : World) : Calls Tryd.prog 83 #[.string a, .string b] w fun e w' => e = .returned (.int .i64 (cmpB a b)) ∧ w = w' := by
  go_enter Tryd.func83, Tryd.ntmps83
  go_wp2
  rw [run_callFunc_extern Tryd.func95 (by kernel_rfl) (by kernel_rfl) (by kernel_rfl) (e := Extern.BytealgCompare.compare) (by kernel_rfl), Lib.run_compareString]
  simp only [Result.andThen]
  rw [Oper.upon_value]
  go_wp2
  go_ret
  exact ⟨rfl, rfl⟩

set_option maxRecDepth 100000 in
theorem cmpB_any (a b : ByteArray) (w : World) : Calls Tryd.prog 62 #[.string a, .string b] w fun e w' => e = .returned (.int .i64 (cmpB a b)) ∧ w = w' := by
  have HC := Lib.hid (cmpstr_any a b w)
  go_enter Tryd.func62, Tryd.ntmps62
  go_wp2_with fail
  refine HC.out.mono ?_
  rintro e w1 ⟨rfl, rfl⟩
  go_wp2_with fail
  go_ret
  exact ⟨rfl, rfl⟩

/-- The first that is not 0. -/
def orL : List Int → Int
  | [] => 0
  | z :: l => if z = 0 then orL l else z

theorem orL_skip : ∀ (l : List Int) (k : Nat), (∀ j z, j < k → l[j]? = some z → z = 0) → orL l = orL (l.drop k)
  | [], k, _ => by simp
  | z :: l, 0, _ => by simp
  | z :: l, k + 1, h => by
    have h0 : z = 0 := h 0 z (by omega) (by simp)
    have := orL_skip l k (fun j y hj hy => h (j + 1) y (by omega) (by simpa using hy))
    simp [orL, h0, this]

theorem or_any (g n cap : Nat) (zs : List Int) (w : World) (hn : zs.length = n) (hc : ∀ j z, zs[j]? = some z → w.cell? ⟨g, j, none⟩ = some (.int .i64 z)) (hb : n ≤ 1000000) :
    Calls Tryd.prog 60 #[.slice (some ⟨g, 0, none⟩) n cap] w fun e w' => e = .returned (.int .i64 (orL zs)) ∧ w = w' := by
  have HC := Lib.hid hc
  have HN := Lib.hid hn
  clear hc hn
  go_enter Tryd.func60, Tryd.ntmps60
  go_wp2
  go_loop [8] (fun i => ∃ k : Nat, k ≤ n ∧ i = .int .i64 k ∧ Hid (∀ j z, j < k → zs[j]? = some z → z = 0)) (fun i => n - (intOf i).toNat)
  case atStart => exact ⟨0, Nat.zero_le _, rfl, fun j z hj => by omega⟩
  case round =>
    obtain ⟨k, hk, rfl, hz⟩ := hrel
    by_cases hlt : k < n
    · obtain ⟨z, hzk⟩ : ∃ z, zs[k]? = some z := ⟨zs[k]'(by rw [HN.out]; exact hlt), List.getElem?_eq_getElem _⟩
      have c0 := HC.out k z hzk
      have HZ := Lib.hid hzk
      clear hzk
      by_cases h0 : z = 0
      · have hb0 : (z != 0) = false := by simp [h0]
        have H0 := Lib.hid h0
        clear h0
        go_wp2
        go_round
        case rel =>
          refine ⟨k + 1, by omega, by go_num, fun j y hj hy => ?_⟩
          by_cases e : j = k
          · subst e
            rw [HZ.out] at hy
            cases hy
            exact H0.out
          · exact hz.out j y (by omega) hy
        case measure => simp [intOf]; omega
      · have hb0 : (z != 0) = true := by simpa using h0
        have H0 := Lib.hid h0
        clear h0
        go_wp2
        go_ret
        refine ⟨ret_int ?_, rfl⟩
        rw [orL_skip zs k hz.out, List.drop_eq_getElem_cons (by rw [HN.out]; exact hlt), orL]
        have : zs[k]'(by rw [HN.out]; exact hlt) = z := by
          have := HZ.out
          rw [List.getElem?_eq_getElem (by rw [HN.out]; exact hlt)] at this
          exact Option.some.inj this
        rw [this, if_neg H0.out]
    · go_wp2
      go_ret
      refine ⟨ret_int ?_, rfl⟩
      rw [orL_skip zs k hz.out, List.drop_of_length_le (by rw [HN.out]; omega)]
      rfl

/-- The order of two events. -/
def cmpE (x y : Ev) : Int := orL [cmpI x.tick y.tick, cmpB x.src y.src, cmpI x.num y.num]

set_option maxHeartbeats 1000000 in
set_option maxRecDepth 100000 in
theorem cmpE_any (x y : Ev) (w : World) : Calls Tryd.prog 38 #[evA x, evA y] w fun e w' => e = .returned (.int .i64 (cmpE x y)) ∧ Below w.heap.size w w' := by
  obtain ⟨s1, n1, t1, k1, p1, i1, v1, x1⟩ := x
  obtain ⟨s2, n2, t2, k2, p2, i2, v2, x2⟩ := y
  unfold evA
  dsimp only
  go_enter Tryd.func38, Tryd.ntmps38
  go_wp2_with fail
  refine wp_text [15] (by kernel_rfl) (by kernel_rfl) ?_
  simp only [wpText, Nat.sub_zero, List.take_succ_cons, List.take_zero, List.drop_succ_cons, List.drop_zero, Nat.reduceAdd]
  repeat ((with_reducible refine wpStill_step (fun K hK => ?_)); go_simp; refine hK _ ?_; clear hK K)
  with_reducible refine wpStill_step (fun K hK => ?_)
  go_simp
  refine ⟨_, still_of (cmpI_any _ _ _), hK _ ?_⟩
  clear hK K
  repeat ((with_reducible refine wpStill_step (fun K hK => ?_)); go_simp; refine hK _ ?_; clear hK K)
  with_reducible refine wpStill_step (fun K hK => ?_)
  go_simp
  refine ⟨_, still_of (cmpB_any _ _ _), hK _ ?_⟩
  clear hK K
  repeat ((with_reducible refine wpStill_step (fun K hK => ?_)); go_simp; refine hK _ ?_; clear hK K)
  with_reducible refine wpStill_step (fun K hK => ?_)
  go_simp
  refine ⟨_, still_of (cmpI_any _ _ _), hK _ ?_⟩
  clear hK K
  with_reducible refine wpStill_nil ?_
  go_wp2_with fail
  with_reducible refine wpStill_step (fun K hK => ?_)
  go_simp
  refine ⟨_, still_of (or_any _ 3 3 [cmpI t1 t2, cmpB s1 s2, cmpI n1 n2] _ rfl ?hcells (by omega)), hK _ ?_⟩
  case hcells =>
    intro j z hz
    rcases j with _ | _ | _ | j
    · simp at hz; subst hz; simp [go_sem]
    · simp at hz; subst hz; simp [go_sem]
    · simp at hz; subst hz; simp [go_sem]
    · simp at hz
  clear hK K
  repeat ((with_reducible refine wpStill_step (fun K hK => ?_)); go_simp; refine hK _ ?_; clear hK K)
  with_reducible refine wpStill_nil ?_
  go_wp2_with fail
  go_ret
  have hB : ∀ o1 o2 o3, Below w.heap.size w (((w.alloc o1).alloc o2).alloc o3).drew := fun o1 o2 o3 => by
    have := (((Below.refl w.heap.size w).alloc (Nat.le_refl _) o1).alloc (by simp) o2).alloc (by simp; omega) o3
    exact ⟨this.os, this.tape, this.output, this.size, this.block⟩
  exact ⟨rfl, hB _ _ _⟩

end Go.Proofs.YtikbckpphkpaiaaDoor
