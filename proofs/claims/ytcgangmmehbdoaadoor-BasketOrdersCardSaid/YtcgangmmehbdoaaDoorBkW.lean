/- Baskets in memory; add. -/
import Derived.Test.YtcgangmmehbdoaaDoorStr
import Derived.Test.YtcgangmmehbdoaaDoorBkQ
import Derived.Test.YtcgangmmehbdoaaDoorBump
import Derived.DeepKeys4
import Derived.WideKeyEntry
import Derived.RegionTactic
namespace Go.Proofs.YtcgangmmehbdoaaDoor
open Go.Shelf Go.RowKit Go.Maps
open Go.WideMaps (KeyLaw)
set_option linter.unusedVariables false

section
variable {P : Program} {k : TypeId} {ok : Value → Bool} {w : World} {b n : Nat} {M : Lit → Option Value}
/-- 'clear(m)'. -/
theorem MapIs.cleared {t e : TypeId} (h : MapIs P k ok w b n M) (ht : P.underlying t = some (.map k e)) :
    ∃ w', (∀ ty, (Builtin.clear_ #[t] ty #[.map (some b)]).run P w = .ok (.tuple #[]) w') ∧ MapIs P k ok w' b 0 (fun _ => none) ∧ w.grownBy w' (some b) ∧ w'.heap.size = w.heap.size := by
  obtain ⟨D, ⟨es, clock, hb, F, _⟩, _⟩ := h
  have hlt : b < w.heap.size := (Array.getElem?_eq_some_iff.1 hb).1
  refine ⟨ChangeMaps.setBlock w b (.map #[] clock), ?_, ⟨.map [], ⟨#[], clock, by simp [ChangeMaps.setBlock, hlt], ⟨by simp, Go.MapKept.stamped_empty clock, by simp⟩, Nat.le_refl _, rfl⟩, fun kl => by simp [view, DataW.atKey, unheld]⟩, ?_, by simp [ChangeMaps.setBlock]⟩
  · intro ty
    simp [Builtin.clear_, run_underlying ht, MapKept.run_getObj_map hb, MapKept.run_setObj_map _ hb, Result.andThen, ChangeMaps.setBlock]
  · refine ⟨rfl, rfl, rfl, by simp [ChangeMaps.setBlock], fun i hi hn => ?_⟩
    have : b ≠ i := fun e => hn (by rw [e])
    simp [ChangeMaps.setBlock, this]
end

def okInt : Value → Bool
  | .int .i64 _ => true
  | _ => false
theorem mk_int {v : Value} (h : okInt v = true) : ∃ z : Int, v = .int .i64 z := by
  unfold okInt at h
  split at h
  · exact ⟨_, rfl⟩
  · cases h
theorem zeroInt (w : World) : (zeroValue 3).run Tryd.prog w = .ok (.int .i64 0) w := Tryd.zeroValue3 w
def cntG (S : ByteArray → Nat) : ByteArray → Option Value := fun x => if S x = 0 then none else some (.int .i64 (S x))
theorem cntG_get (S : ByteArray → Nat) (x : ByteArray) : (cntG S x).getD (.int .i64 0) = .int .i64 (S x) := by
  unfold cntG
  by_cases h : S x = 0 <;> simp [h]
def bmpS (S : ByteArray → Nat) (x : ByteArray) : ByteArray → Nat := fun y => if y = x then S x + 1 else S y
theorem cntG_upd (S : ByteArray → Nat) (x : ByteArray) : ∀ kl, upd (mapG (cntG S)) (.string x.data.toList) (.int .i64 ((S x : Int) + 1)) kl = mapG (cntG (bmpS S x)) kl := fun kl => by
  rw [mapG_upd]
  cases kl with
  | string l =>
    show updG (cntG S) x _ _ = cntG (bmpS S x) _
    unfold updG cntG bmpS
    by_cases h : (⟨l.toArray⟩ : ByteArray) = x <;> simp [h]
  | _ => rfl
def bskG (f : Bsk) : ByteArray → Option Value := fun x => (f x).map (.int .i64)

def lit2 (x y : ByteArray) : Lit := .string (keyBytes [.string x.data.toList, .string y.data.toList])
theorem lit2_inj {x y x' y' : ByteArray} (h1 : x.size ≤ maxLen) (h2 : y.size ≤ maxLen) (h3 : x'.size ≤ maxLen) (h4 : y'.size ≤ maxLen) (h : lit2 x y = lit2 x' y') : x = x' ∧ y = y' := by
  unfold lit2 at h
  injection h with h
  have hl : ∀ s : ByteArray, s.size ≤ maxLen → s.data.toList.length ≤ maxLen := fun s hs => by simpa using hs
  have := keyBytes_inj (l := [.string x.data.toList, .string y.data.toList]) (l' := [.string x'.data.toList, .string y'.data.toList]) ⟨trivial, trivial, trivial⟩
    (fun a ha => by simp at ha; rcases ha with rfl | rfl <;> simp only [Lit.keyWf] <;> (first | exact hl _ h1 | exact hl _ h2))
    (fun a ha => by simp at ha; rcases ha with rfl | rfl <;> simp only [Lit.keyWf] <;> (first | exact hl _ h3 | exact hl _ h4)) h
  injection this with e1 e2
  injection e2 with e2 _
  injection e1 with e1
  injection e2 with e2
  exact ⟨ba_eq e1, ba_eq e2⟩
theorem lit2_same {x y x' y' : ByteArray} (h1 : x.size ≤ maxLen) (h2 : y.size ≤ maxLen) (h3 : x'.size ≤ maxLen) (h4 : y'.size ≤ maxLen) : (lit2 x y).sameKey (lit2 x' y') = decide (x = x' ∧ y = y') := by
  by_cases h : x = x' ∧ y = y'
  · obtain ⟨rfl, rfl⟩ := h
    rw [WideAt.sameKey_self (by trivial)]
    simp
  · rw [sameKey_ne (fun e => h (lit2_inj h1 h2 h3 h4 e))]
    simp [h]
theorem twoLaw : KeyLaw Tryd.prog 69 := deep_law_laid (by kernel_rfl) (m := 2) (by omega) (of_decide_eq_true (by kernel_rfl)) (by kernel_rfl) (by kernel_rfl)
theorem twoKeyed : Keyed Tryd.prog 69 := Keyed.of_law twoLaw
theorem two_keyOf (x y : ByteArray) (hx : x.size ≤ maxLen) (hy : y.size ≤ maxLen) : keyOf Tryd.prog 69 (.agg #[.string x, .string y]) = some (lit2 x y) := by
  have hc : Tryd.prog.cellsOf 69 = 2 := by kernel_rfl
  have hc2 : Tryd.prog.cellsOf 9 = 1 := by kernel_rfl
  have hk : Tryd.prog.keyType 69 = true := by kernel_rfl
  obtain ⟨d, hd⟩ : ∃ d, Tryd.prog.types.size + 1 = d + 2 := ⟨Tryd.prog.types.size - 1, by
    have : 1 ≤ Tryd.prog.types.size := of_decide_eq_true (by kernel_rfl)
    omega⟩
  unfold keyOf
  rw [Tryd.underlying69]
  simp only [hk, Value.formed, Tryd.underlying69, hc, hd]
  simp [Program.keyLits, Tryd.underlying69, Tryd.underlying9, hc, hc2, Value.cells, hx, hy, lit2]
/-- M counts pairs as C does. -/
def Cnt2 (M : Lit → Option Value) (C : ByteArray → ByteArray → Nat) : Prop := ∀ x y, x.size ≤ maxLen → y.size ≤ maxLen → M (lit2 x y) = if C x y = 0 then none else some (.int .i64 (C x y))
theorem Cnt2.none : Cnt2 (fun _ => none) (fun _ _ => 0) := fun x y _ _ => by simp
def bmpC (C : ByteArray → ByteArray → Nat) (x y : ByteArray) : ByteArray → ByteArray → Nat := fun a b => if a = x ∧ b = y then C x y + 1 else C a b
theorem Cnt2.get {M : Lit → Option Value} {C : ByteArray → ByteArray → Nat} (h : Cnt2 M C) {x y : ByteArray} (hx : x.size ≤ maxLen) (hy : y.size ≤ maxLen) : (M (lit2 x y)).getD (.int .i64 0) = .int .i64 (C x y) := by
  rw [h x y hx hy]
  by_cases e : C x y = 0 <;> simp [e]
theorem Cnt2.bump {M : Lit → Option Value} {C : ByteArray → ByteArray → Nat} (h : Cnt2 M C) {x y : ByteArray} (hx : x.size ≤ maxLen) (hy : y.size ≤ maxLen) : Cnt2 (upd M (lit2 x y) (.int .i64 ((C x y : Int) + 1))) (bmpC C x y) := fun a b ha hb => by
  unfold upd bmpC
  rw [lit2_same ha hb hx hy]
  by_cases e : a = x ∧ b = y
  · simp [e]
  · simp only [e, decide_false, Bool.false_eq_true, if_false]
    exact h a b ha hb
theorem Cnt2.congr {M : Lit → Option Value} {C C' : ByteArray → ByteArray → Nat} (h : Cnt2 M C) (e : ∀ x y, C x y = C' x y) : Cnt2 M C' := fun x y hx hy => by rw [h x y hx hy, e]

/-- Baskets in block bb: A of them, S x with a thing, C x y with one behind another one. -/
structure BkIn (w : World) (bb sb cb n1 n2 : Nat) (A : Nat) (S : ByteArray → Nat) (C : ByteArray → ByteArray → Nat) : Prop where
  blk : Blk w bb 53 #[.int .i64 A, .map (some sb), .map (some cb)]
  sg : MapIs Tryd.prog 9 okInt w sb n1 (mapG (cntG S))
  ct : ∃ M, MapIs Tryd.prog 69 okInt w cb n2 M ∧ Cnt2 M C
  ne : sb ≠ cb
section
variable {w w' : World} {bb sb cb n1 n2 A : Nat} {S : ByteArray → Nat} {C : ByteArray → ByteArray → Nat} {F : Nat → Prop}
theorem BkIn.kept (h : BkIn w bb sb cb n1 n2 A S C) (k : Kept F w w') (h1 : ¬ F bb) (h2 : ¬ F sb) (h3 : ¬ F cb) : BkIn w' bb sb cb n1 n2 A S C := by
  obtain ⟨M, hM, hC⟩ := h.ct
  exact ⟨h.blk.kept k h1, h.sg.kept k h2, ⟨M, hM.kept k h3, hC⟩, h.ne⟩
theorem BkIn.congr {A' : Nat} {S' : ByteArray → Nat} {C' : ByteArray → ByteArray → Nat} (h : BkIn w bb sb cb n1 n2 A S C) (h1 : A = A') (h2 : ∀ x, S x = S' x) (h3 : ∀ x y, C x y = C' x y) : BkIn w bb sb cb n1 n2 A' S' C' := by
  obtain ⟨M, hM, hC⟩ := h.ct
  subst h1
  have : S = S' := funext h2
  subst this
  exact ⟨h.blk, h.sg, ⟨M, hM, hC.congr h3⟩, h.ne⟩
theorem BkIn.mono {m1 m2 : Nat} (h : BkIn w bb sb cb n1 n2 A S C) (h1 : n1 ≤ m1) (h2 : n2 ≤ m2) : BkIn w bb sb cb m1 m2 A S C := by
  obtain ⟨M, hM, hC⟩ := h.ct
  exact ⟨h.blk, h.sg.mono h1, ⟨M, hM.mono h2, hC⟩, h.ne⟩
theorem BkIn.lt (h : BkIn w bb sb cb n1 n2 A S C) : bb < w.heap.size ∧ sb < w.heap.size ∧ cb < w.heap.size := by
  obtain ⟨M, hM, hC⟩ := h.ct
  exact ⟨h.blk.lt, h.sg.lt, hM.lt⟩
theorem BkIn.nes (h : BkIn w bb sb cb n1 n2 A S C) : sb ≠ bb ∧ cb ≠ bb := by
  obtain ⟨M, hM, hC⟩ := h.ct
  exact ⟨h.sg.ne_blk h.blk, hM.ne_blk h.blk⟩
end
def one (b : Bool) : Nat := if b then 1 else 0
/-- The blocks of baskets. -/
def bkF (bb sb cb : Nat) : Nat → Prop := fun q => q = bb ∨ q = sb ∨ q = cb

end Go.Proofs.YtcgangmmehbdoaaDoor
