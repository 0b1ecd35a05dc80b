/- The calls that a law is given, in memory; few. -/
import Derived.Test.YtobkgkiomapabaaDoorAwake
namespace Go.Proofs.YtobkgkiomapabaaDoor
open Go.RowKit Go.Maps Go.Lib Go.Shelf
set_option linter.unusedVariables false

structure ActD where
  kind : Int
  name : ByteArray
  at_ : Int
  now : Int

/-- The slice at a holds the calls l, below block B. -/
def ActsAt (w : World) (B : Nat) (a : Option Addr) (l : List ActD) : Prop :=
  ∀ i x, l[i]? = some x → ∃ b off, a = some ⟨b, off, none⟩ ∧ b < B ∧ w.cell? ⟨b, off + i * 4, none⟩ = some (.int .i64 x.kind) ∧ w.cell? ⟨b, off + i * 4 + 1, none⟩ = some (.string x.name) ∧
    w.cell? ⟨b, off + i * 4 + 2, none⟩ = some (.int .i64 x.at_) ∧ w.cell? ⟨b, off + i * 4 + 3, none⟩ = some (.int .i64 x.now)

theorem ActsAt.below {w w' : World} {B : Nat} {a : Option Addr} {l : List ActD} (h : ActsAt w B a l) (hb : Below B w w') : ActsAt w' B a l := by
  intro i x hx
  obtain ⟨b, off, ha, hlt, h0, h1, h2, h3⟩ := h i x hx
  exact ⟨b, off, ha, hlt, (hb.cell (p := ⟨b, _, none⟩) hlt).trans h0, (hb.cell (p := ⟨b, _, none⟩) hlt).trans h1, (hb.cell (p := ⟨b, _, none⟩) hlt).trans h2, (hb.cell (p := ⟨b, _, none⟩) hlt).trans h3⟩

/-- It returns a bool of which p holds; the world is as it was. -/
def SomeBool (p : Bool → Prop) (w : World) (e : Ending) (w' : World) : Prop := ∃ r, e = .returned (.bool r) ∧ p r ∧ w = w'

set_option maxRecDepth 100000 in
theorem few_any (a : Option Addr) (len cap B : Nat) (l : List ActD) (w : World) (hl : l.length = len) (ha : ActsAt w B a l) (hm : len ≤ 9223372036854775807) :
    Calls Tryd.prog 6 #[.slice a len cap] w (SomeBool (fun r => r = true → len ≤ 101) w) := by
  go_enter Tryd.func6, Tryd.ntmps6
  go_wp2
  go_loop [3] (fun i => ∃ k : Nat, k ≤ len ∧ k ≤ 101 ∧ i = .int .i64 k) (fun i => len - (intOf i).toNat)
  case atStart => exact ⟨0, Nat.zero_le _, by omega, rfl⟩
  case round =>
    obtain ⟨k, hk, hk1, rfl⟩ := hrel
    by_cases hlt : k < len
    · obtain ⟨x, hx⟩ : ∃ x, l[k]? = some x := ⟨l[k]'(by omega), List.getElem?_eq_getElem (by omega)⟩
      obtain ⟨b, off, rfl, hB, c0, c1, c2, c3⟩ := ha k x hx
      clear hx
      by_cases h1 : 100 < x.name.size
      · go_wp2
        go_ret
        exact ⟨false, rfl, (by intro h; cases h), rfl⟩
      · by_cases h2 : 100 < k
        · go_wp2
          go_ret
          exact ⟨false, rfl, (by intro h; cases h), rfl⟩
        · go_wp2
          go_round
          case rel => exact ⟨k + 1, by omega, by omega, by go_num⟩
          case measure => simp [intOf]; omega
    · go_wp2
      go_ret
      exact ⟨true, rfl, fun _ => by omega, rfl⟩

end Go.Proofs.YtobkgkiomapabaaDoor
