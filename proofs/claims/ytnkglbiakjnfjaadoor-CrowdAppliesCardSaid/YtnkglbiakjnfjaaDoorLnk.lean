/- Maps whose keys are two names. -/
import Derived.Test.YtnkglbiakjnfjaaDoorStr
import Derived.Test.YtnkglbiakjnfjaaDoorBump
import Derived.Test.YtnkglbiakjnfjaaDoorMapOps
import Derived.DeepKeys4
import Derived.WideKeyEntry
namespace Go.Proofs.YtnkglbiakjnfjaaDoor
open Go.Shelf Go.RowKit Go.Maps
open Go.WideMaps (KeyLaw)
set_option linter.unusedVariables false

def okInt : Value → Bool
  | .int .i64 _ => true
  | _ => false
theorem mk_int {v : Value} (h : okInt v = true) : ∃ z : Int, v = .int .i64 z := by
  unfold okInt at h
  split at h
  · exact ⟨_, rfl⟩
  · cases h
theorem zeroInt (w : World) : (zeroValue 3).run Tryd.prog w = .ok (.int .i64 0) w := Tryd.zeroValue3 w
def cntG (S : ByteArray → Nat) : ByteArray → Option Value := fun x => if S x = 0 then none else some (.int .i64 (S x))
theorem cntG_get (S : ByteArray → Nat) (x : ByteArray) : (cntG S x).getD (.int .i64 0) = .int .i64 (S x) := by
  unfold cntG
  by_cases h : S x = 0 <;> simp [h]
def bmpS (S : ByteArray → Nat) (x : ByteArray) : ByteArray → Nat := fun y => if y = x then S x + 1 else S y
theorem cntG_upd (S : ByteArray → Nat) (x : ByteArray) : ∀ kl, upd (mapG (cntG S)) (.string x.data.toList) (.int .i64 ((S x : Int) + 1)) kl = mapG (cntG (bmpS S x)) kl := fun kl => by
  rw [mapG_upd]
  cases kl with
  | string l =>
    show updG (cntG S) x _ _ = cntG (bmpS S x) _
    unfold updG cntG bmpS
    by_cases h : (⟨l.toArray⟩ : ByteArray) = x <;> simp [h]
  | _ => rfl
def okBool : Value → Bool
  | .bool _ => true
  | _ => false
theorem zeroBool (w : World) : (zeroValue 4).run Tryd.prog w = .ok (.bool false) w := Tryd.zeroValue4 w
def lit2 (x y : ByteArray) : Lit := .string (keyBytes [.string x.data.toList, .string y.data.toList])
theorem lit2_inj {x y x' y' : ByteArray} (h1 : x.size ≤ maxLen) (h2 : y.size ≤ maxLen) (h3 : x'.size ≤ maxLen) (h4 : y'.size ≤ maxLen) (h : lit2 x y = lit2 x' y') : x = x' ∧ y = y' := by
  unfold lit2 at h
  injection h with h
  have hl : ∀ s : ByteArray, s.size ≤ maxLen → s.data.toList.length ≤ maxLen := fun s hs => by simpa using hs
  have := keyBytes_inj (l := [.string x.data.toList, .string y.data.toList]) (l' := [.string x'.data.toList, .string y'.data.toList]) ⟨trivial, trivial, trivial⟩
    (fun a ha => by simp at ha; rcases ha with rfl | rfl <;> simp only [Lit.keyWf] <;> (first | exact hl _ h1 | exact hl _ h2))
    (fun a ha => by simp at ha; rcases ha with rfl | rfl <;> simp only [Lit.keyWf] <;> (first | exact hl _ h3 | exact hl _ h4)) h
  injection this with e1 e2
  injection e2 with e2 _
  injection e1 with e1
  injection e2 with e2
  exact ⟨ba_eq e1, ba_eq e2⟩
theorem lit2_same {x y x' y' : ByteArray} (h1 : x.size ≤ maxLen) (h2 : y.size ≤ maxLen) (h3 : x'.size ≤ maxLen) (h4 : y'.size ≤ maxLen) : (lit2 x y).sameKey (lit2 x' y') = decide (x = x' ∧ y = y') := by
  by_cases h : x = x' ∧ y = y'
  · obtain ⟨rfl, rfl⟩ := h
    rw [WideAt.sameKey_self (by trivial)]
    simp
  · rw [sameKey_ne (fun e => h (lit2_inj h1 h2 h3 h4 e))]
    simp [h]
theorem lnkLaw : KeyLaw Tryd.prog 95 := deep_law_laid (by kernel_rfl) (m := 2) (by omega) (of_decide_eq_true (by kernel_rfl)) (by kernel_rfl) (by kernel_rfl)
theorem lnkKeyed : Keyed Tryd.prog 95 := Keyed.of_law lnkLaw
theorem lnk_keyOf (x y : ByteArray) (hx : x.size ≤ maxLen) (hy : y.size ≤ maxLen) : keyOf Tryd.prog 95 (.agg #[.string x, .string y]) = some (lit2 x y) := by
  have hc : Tryd.prog.cellsOf 95 = 2 := by kernel_rfl
  have hc2 : Tryd.prog.cellsOf 9 = 1 := by kernel_rfl
  have hk : Tryd.prog.keyType 95 = true := by kernel_rfl
  obtain ⟨d, hd⟩ : ∃ d, Tryd.prog.types.size + 1 = d + 2 := ⟨Tryd.prog.types.size - 1, by
    have : 1 ≤ Tryd.prog.types.size := of_decide_eq_true (by kernel_rfl)
    omega⟩
  unfold keyOf
  rw [Tryd.underlying95]
  simp only [hk, Value.formed, Tryd.underlying95, hc, hd]
  simp [Program.keyLits, Tryd.underlying95, Tryd.underlying9, hc, hc2, Value.cells, hx, hy, lit2]

/-- Block b is a map that has at two names what f says. -/
def Is2 (ok : Value → Bool) (w : World) (b n : Nat) (f : ByteArray → ByteArray → Option Value) : Prop := ∃ M, MapIs Tryd.prog 95 ok w b n M ∧ ∀ x y, x.size ≤ maxLen → y.size ≤ maxLen → M (lit2 x y) = f x y
section
variable {ok : Value → Bool} {w w' : World} {b n : Nat} {f f' : ByteArray → ByteArray → Option Value}
theorem Is2.made (w : World) (ok : Value → Bool) : Is2 ok (w.alloc (.map #[] 0)) w.heap.size 0 (fun _ _ => none) := ⟨_, MapIs.made w Tryd.prog _ ok, fun _ _ _ _ => rfl⟩
theorem Is2.kept {S : Nat → Prop} (h : Is2 ok w b n f) (k : Kept S w w') (hb : ¬ S b) : Is2 ok w' b n f := by
  obtain ⟨M, h1, h2⟩ := h
  exact ⟨M, h1.kept k hb, h2⟩
theorem Is2.mono {n' : Nat} (h : Is2 ok w b n f) (hn : n ≤ n') : Is2 ok w b n' f := by
  obtain ⟨M, h1, h2⟩ := h
  exact ⟨M, h1.mono hn, h2⟩
theorem Is2.congr (h : Is2 ok w b n f) (he : ∀ x y, f x y = f' x y) : Is2 ok w b n f' := by
  obtain ⟨M, h1, h2⟩ := h
  exact ⟨M, h1, fun x y hx hy => (h2 x y hx hy).trans (he x y)⟩
theorem Is2.lt (h : Is2 ok w b n f) : b < w.heap.size := by
  obtain ⟨M, h1, h2⟩ := h
  exact h1.lt
theorem Is2.ne_blk {g : Nat} {t : TypeId} {cs : Array Value} (h : Is2 ok w b n f) (hg : Blk w g t cs) : b ≠ g := by
  obtain ⟨M, h1, h2⟩ := h
  exact h1.ne_blk hg
/-- f with v at two names. -/
def upd2 (f : ByteArray → ByteArray → Option Value) (x y : ByteArray) (v : Value) : ByteArray → ByteArray → Option Value := fun a b => if a = x ∧ b = y then some v else f a b
theorem upd2_is {M : Lit → Option Value} (h : ∀ x y, x.size ≤ maxLen → y.size ≤ maxLen → M (lit2 x y) = f x y) {x y : ByteArray} (hx : x.size ≤ maxLen) (hy : y.size ≤ maxLen) (v : Value) : ∀ a b, a.size ≤ maxLen → b.size ≤ maxLen → upd M (lit2 x y) v (lit2 a b) = upd2 f x y v a b := fun a b ha hb => by
  unfold upd upd2
  rw [lit2_same ha hb hx hy]
  by_cases e : a = x ∧ b = y
  · simp [e]
  · simp only [e, decide_false, Bool.false_eq_true, if_false]
    exact h a b ha hb
end

/-- What a map says of a word that changes to and fro. -/
def boolF (f : ByteArray → ByteArray → Option Bool) : ByteArray → ByteArray → Option Value := fun x y => (f x y).map .bool
def setF (f : ByteArray → ByteArray → Bool) : ByteArray → ByteArray → Option Value := fun x y => if f x y then some (.bool true) else none
def cntF (f : ByteArray → ByteArray → Nat) : ByteArray → ByteArray → Option Value := fun x y => if f x y = 0 then none else some (.int .i64 (f x y))
theorem boolF_get (f : ByteArray → ByteArray → Option Bool) (x y : ByteArray) : (boolF f x y).getD (.bool false) = .bool ((f x y).getD false) := by
  unfold boolF
  cases f x y <;> rfl
theorem setF_get (f : ByteArray → ByteArray → Bool) (x y : ByteArray) : (setF f x y).getD (.bool false) = .bool (f x y) := by
  unfold setF
  cases f x y <;> rfl
theorem cntF_get (f : ByteArray → ByteArray → Nat) (x y : ByteArray) : (cntF f x y).getD (.int .i64 0) = .int .i64 (f x y) := by
  unfold cntF
  by_cases h : f x y = 0 <;> simp [h]

/-- A row of a call's own lies in no map, and in no block of another type. -/
theorem own_ne_map {P : Program} {k : TypeId} {ok : Value → Bool} {w : World} {b n base e size m : Nat} {M : Lit → Option Value} {v : Value} {xs : List Value} (h : w.ownsRow base e size v m xs) (hm : MapIs P k ok w b n M) : v.ownBlock ≠ some b := by
  intro hv
  rcases h.2 with ⟨rfl, _⟩ | ⟨g, cap, cur, rfl, _, hh, _⟩
  · cases hv
  · cases hv
    obtain ⟨D, ⟨es, clock, hb, _⟩, _⟩ := hm
    rw [hb] at hh
    cases hh
theorem own_ne_blk {w : World} {g : Nat} {t : TypeId} {cs : Array Value} {base e size m : Nat} {v : Value} {xs : List Value} (h : w.ownsRow base e size v m xs) (hg : Blk w g t cs) (hne : e ≠ t) : v.ownBlock ≠ some g := by
  intro hv
  rcases h.2 with ⟨rfl, _⟩ | ⟨g', cap, cur, rfl, _, hh, _⟩
  · cases hv
  · cases hv
    unfold Blk at hg
    rw [hg] at hh
    injection hh with hh
    injection hh with _ ht
    exact hne ht.symm
theorem own_ne {w : World} {base base' e e' size size' n n' : Nat} {v v' : Value} {xs xs' : List Value} (h : w.ownsRow base e size v n xs) (h' : w.ownsRow base' e' size' v' n' xs') (hne : e ≠ e') : Apart v v' := by
  intro g hg hg'
  rcases h.2 with ⟨rfl, _⟩ | ⟨g1, cap, cur, rfl, _, hh, _⟩
  · cases hg
  · rcases h'.2 with ⟨rfl, _⟩ | ⟨g2, cap2, cur2, rfl, _, hh2, _⟩
    · cases hg'
    · cases hg
      cases hg'
      rw [hh] at hh2
      injection hh2 with hh2
      injection hh2 with _ ht
      exact hne ht
theorem own_other {w w' : World} {base base' e e' size size' n n' : Nat} {v v' : Value} {xs xs' : List Value} (h : w.ownsRow base e size v n xs) (h' : w.ownsRow base' e' size' v' n' xs') (hne : e ≠ e') (hg : w.grownBy w' v'.ownBlock) : w'.ownsRow base e size v n xs :=
  h.kept hg (by
    cases hv : v.ownBlock with
    | none => exact Or.inl rfl
    | some g => exact Or.inr (fun e => own_ne h h' hne g hv e.symm))

end Go.Proofs.YtnkglbiakjnfjaaDoor
