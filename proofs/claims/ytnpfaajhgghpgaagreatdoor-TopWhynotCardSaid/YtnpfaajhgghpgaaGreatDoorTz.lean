/- What the tale's texts lack in this seat's base. A region that draws its order, walked by a plan that forks (two, three ways); what is kept of the world is chosen anew behind each turn. Nothing of the program. A tale, plain: what its steps tell. A tale's bytes; tale.numbered, tale.listing. tale.settings. -/
import Derived.Test.YtnpfaajhgghpgaaGreatDoorUz
import Derived.Test.YtnpfaajhgghpgaaGreatDoorShelf
import Derived.Shelf.Strconv.Itoa3
import Derived.Shelf.Strings.OnBuilder
import Derived.Shelf.Strings.BuilderK
import Derived.Lib.AppendIntMem
import Derived.Lib.Join
import Derived.Lib.MinMax
import Derived.Deep.DeepCutAuto
import Derived.Deep.CutBlock
import Derived.Lib.ItoaLen
namespace Go.Proofs.YtnpfaajhgghpgaaGreatDoor
open Go.Shelf Go.RowKit Go.Maps
open Ru (TabAt Zbx)
set_option linter.unusedVariables false

@[go_sem high] theorem max_in (ats : Array TypeId) (ty : TypeId) (k k2 : IntKind) (a b : Int) : Builtin.max_ ats ty #[.int k a, .int k2 b] = pure (.int k (max a b)) := by
  have e : (if b > a then b else a) = max a b := by split <;> omega
  rw [← e]
  rfl
theorem RowIn.kept {w w' : World} {B size n : Nat} {A : Option Addr} {xs : List Value} {S : Nat → Prop} (h : RowIn w B size A n xs) (k : Kept S w w') (hB : B ≤ w.heap.size) (hS : ∀ i, i < B → ¬ S i) : RowIn w' B size A n xs := h.keep fun p hp => k.cell (by omega) (hS _ hp)
theorem tlBx : Builder.Extra Tryz.prog Tryz.lays156_ren where
  sizeBuilder := by kernel_rfl
  liesBuilder := by kernel_rfl
  t5 := Tryz.underlying5
  a5 := Tryz.isAgg5
  z5 := Tryz.sizeOf5
  v5 := Tryz.zeroValue5
  infoByte := by kernel_rfl
  cellsByte := by kernel_rfl
  sizeByte := by kernel_rfl
  neB5 := by decide
theorem Zpr (bk o c : Nat) (xs : List ByteArray) (sep : ByteArray) (w : World) (hcells : ∀ (j : Nat) x, xs[j]? = some x → w.cell? ⟨bk, o + j, none⟩ = some (.string x)) (hbk : bk < w.heap.size) (hN : xs.length ≤ 140737488355328) (hcap : xs.length ≤ c) (hlen : (Lib.join (xs.map (·.data.toList)) sep.data.toList).length ≤ 140737488355328) :
    Calls Tryz.prog 85 #[.slice (some ⟨bk, o, none⟩) xs.length c, .string sep] w fun e w' => e = .returned (.string ⟨(Lib.join (xs.map (·.data.toList)) sep.data.toList).toArray⟩) ∧ Below w.heap.size w w' :=
  Any.strings_Join Tryz.lays156 tlBx bk o c xs sep w hcells hbk hN hcap hlen
def EvFew (e : Ev) : Prop := e.src.size + e.person.size + e.item.size + e.text.size ≤ 600
section
variable {P : Program} {ops : Array Oper} {Q : Exit → Act → World → Prop} {S : World → Prop}
theorem planT_off {o : Oper} {r : PlO} {a : Act} {w : World} (hw : Region.wanted o (yielded ops a.tmps) = false) (h : wpPlanT P ops Q S r (a.put o.dst undef) w) : wpPlanT P ops Q S (.take o r) a w :=
  ⟨undef, Or.inr ⟨hw, rfl⟩, h⟩
end
theorem ev1_row (w : World) (x : Ev) (t : TypeId) : RowIn (w.alloc (.cells #[.string x.src, .int .i64 x.num, .int .i64 x.tick, .int .i64 x.kind, .string x.person, .string x.item, .int .i64 x.value, .string x.text] t)) (w.heap.size + 1) 8 (some ⟨w.heap.size, 0, none⟩) 1 (evC x) := by
  refine ⟨rfl, Or.inr ⟨w.heap.size, 0, rfl, by omega, fun j u hu => ?_⟩⟩
  rw [(Blk.new w t _).cell]
  rw [← hu, Nat.zero_add]
  simp [evC]
theorem own_none_cap {w : World} {base e size n c : Nat} {xs : List Value} (h : w.ownsRow base e size (.slice none n c) n xs) : c = 0 := by
  rcases h.2 with ⟨h1, _⟩ | ⟨g, cap, cur, h1, _⟩
  · injection h1
  · injection h1 with h1
    cases h1
end Go.Proofs.YtnpfaajhgghpgaaGreatDoor

namespace Go.Proofs.YtnpfaajhgghpgaaGreatDoor
set_option linter.unusedVariables false

inductive PlW where
  | done : PlW
  | take (i : Nat) (r : PlW) : PlW
  | turn (i : Nat) (r : PlW) : PlW
  | fork (i : Nat) (r : PlW) (j : Nat) (r' : PlW) : PlW
  | tri (i : Nat) (r : PlW) (j : Nat) (r' : PlW) (k : Nat) (r'' : PlW) : PlW
inductive PlX where
  | done : PlX
  | take (o : Oper) (r : PlX) : PlX
  | turn (o : Oper) (r : PlX) : PlX
  | fork (o : Oper) (r : PlX) (o' : Oper) (r' : PlX) : PlX
  | tri (o : Oper) (r : PlX) (o' : Oper) (r' : PlX) (o'' : Oper) (r'' : PlX) : PlX

section
variable {P : Program} {ops : Array Oper} {md : Region.Mode} {Q : Exit → Act → World → Prop} {S S' : World → Prop}

def planWB (md : Region.Mode) (ops : Array Oper) : Nat → PlW → Array Bool → Bool
  | 0, .done, listed => decide (Region.ready md ops listed = [])
  | n + 1, .turn i r, listed => decide (Region.ready md ops listed = [i]) && planWB md ops n r (listed.setIfInBounds i true)
  | n + 1, .take i r, listed => (Region.ready md ops listed).contains i && Region.free md ops listed i && planWB md ops n r (listed.setIfInBounds i true)
  | n + 1, .fork i r j r', listed => decide (Region.ready md ops listed = [i, j]) && planWB md ops n r (listed.setIfInBounds i true) && planWB md ops n r' (listed.setIfInBounds j true)
  | n + 1, .tri i r j r' k r'', listed => decide (Region.ready md ops listed = [i, j, k]) && planWB md ops n r (listed.setIfInBounds i true) && planWB md ops n r' (listed.setIfInBounds j true) && planWB md ops n r'' (listed.setIfInBounds k true)
  | _, _, _ => false
def planWL (l : List Oper) : PlW → PlX
  | .done => .done
  | .take i r => match l[i]? with | some o => .take o (planWL l r) | none => .done
  | .turn i r => match l[i]? with | some o => .turn o (planWL l r) | none => .done
  | .fork i r j r' => match l[i]? with | some o => (match l[j]? with | some o' => .fork o (planWL l r) o' (planWL l r') | none => .done) | none => .done
  | .tri i r j r' k r'' => match l[i]? with | some o => (match l[j]? with | some o' => (match l[k]? with | some o'' => .tri o (planWL l r) o' (planWL l r') o'' (planWL l r'') | none => .done) | none => .done) | none => .done
def wpPlanW (P : Program) (ops : Array Oper) (Q : Exit → Act → World → Prop) : PlX → (World → Prop) → Act → World → Prop
  | .done, S, a, w => Q .normal a w
  | .turn o r, S, a, w => wpList P ops (Exit.then (fun a' w' => ∃ S', (∀ W, S' W → S W) ∧ S' w' ∧ wpPlanW P ops Q r S' a' w') Q) [o] a w
  | .take o r, S, a, w => ∃ v, YieldsIf P ops S o v a ∧ wpPlanW P ops Q r S (a.put o.dst v) w
  | .fork o r o' r', S, a, w => wpList P ops (Exit.then (fun a' w' => ∃ S', (∀ W, S' W → S W) ∧ S' w' ∧ wpPlanW P ops Q r S' a' w') Q) [o] a w ∧ wpList P ops (Exit.then (fun a' w' => ∃ S', (∀ W, S' W → S W) ∧ S' w' ∧ wpPlanW P ops Q r' S' a' w') Q) [o'] a w
  | .tri o r o' r' o'' r'', S, a, w => wpList P ops (Exit.then (fun a' w' => ∃ S', (∀ W, S' W → S W) ∧ S' w' ∧ wpPlanW P ops Q r S' a' w') Q) [o] a w ∧ wpList P ops (Exit.then (fun a' w' => ∃ S', (∀ W, S' W → S W) ∧ S' w' ∧ wpPlanW P ops Q r' S' a' w') Q) [o'] a w ∧ wpList P ops (Exit.then (fun a' w' => ∃ S', (∀ W, S' W → S W) ∧ S' w' ∧ wpPlanW P ops Q r'' S' a' w') Q) [o''] a w
theorem planW_on {o : Oper} {r : PlX} {a : Act} {w : World} (v : Value) (hw : Region.wanted o (yielded ops a.tmps) = true) (hy : ∀ W, S W → (execOp a.eval o).run P W = .ok (.value v) W) (h : wpPlanW P ops Q r S (a.put o.dst v) w) : wpPlanW P ops Q (.take o r) S a w :=
  ⟨v, Or.inl ⟨hw, hy⟩, h⟩
theorem planW_off {o : Oper} {r : PlX} {a : Act} {w : World} (hw : Region.wanted o (yielded ops a.tmps) = false) (h : wpPlanW P ops Q r S (a.put o.dst undef) w) : wpPlanW P ops Q (.take o r) S a w :=
  ⟨undef, Or.inr ⟨hw, rfl⟩, h⟩
theorem planW_turn {o : Oper} {r : PlX} {a : Act} {w : World} (h : wpList P ops (Exit.then (fun a' w' => ∃ S', (∀ W, S' W → S W) ∧ S' w' ∧ wpPlanW P ops Q r S' a' w') Q) [o] a w) : wpPlanW P ops Q (.turn o r) S a w := h
theorem planW_fork {o o' : Oper} {r r' : PlX} {a : Act} {w : World} (h : wpList P ops (Exit.then (fun a' w' => ∃ S', (∀ W, S' W → S W) ∧ S' w' ∧ wpPlanW P ops Q r S' a' w') Q) [o] a w) (h' : wpList P ops (Exit.then (fun a' w' => ∃ S', (∀ W, S' W → S W) ∧ S' w' ∧ wpPlanW P ops Q r' S' a' w') Q) [o'] a w) : wpPlanW P ops Q (.fork o r o' r') S a w := ⟨h, h'⟩
theorem planW_tri {o o' o'' : Oper} {r r' r'' : PlX} {a : Act} {w : World} (h : wpList P ops (Exit.then (fun a' w' => ∃ S', (∀ W, S' W → S W) ∧ S' w' ∧ wpPlanW P ops Q r S' a' w') Q) [o] a w) (h' : wpList P ops (Exit.then (fun a' w' => ∃ S', (∀ W, S' W → S W) ∧ S' w' ∧ wpPlanW P ops Q r' S' a' w') Q) [o'] a w) (h'' : wpList P ops (Exit.then (fun a' w' => ∃ S', (∀ W, S' W → S W) ∧ S' w' ∧ wpPlanW P ops Q r'' S' a' w') Q) [o''] a w) : wpPlanW P ops Q (.tri o r o' r' o'' r'') S a w := ⟨h, h', h''⟩
theorem wpAnyH_weakW (hS : ∀ W, S' W → S W) : ∀ (fuel : Nat) (listed : Array Bool) (a : Act) (w : World), wpAnyH P md ops Q S' fuel listed a w → wpAnyH P md ops Q S fuel listed a w
  | 0, listed, a, w, h => h
  | fuel + 1, listed, a, w, h =>
    ⟨h.1, fun i hi => wpOp_mono (fun a' w' h' => ⟨hS w' h'.1, wpAnyH_weakW hS fuel _ a' w' h'.2⟩) (h.2 i hi)⟩
theorem planW_done {a : Act} {w : World} (h : Q .normal a w) : wpPlanW P ops (NoPanic Q) .done S a w := NoPanic.normal h

theorem planW_any {l : List Oper} (hl : ops = l.toArray) (hsel : Region.noSelect ops = true) (hQ : ∀ c (a : Act) d v w, Q (.panic c) (a.put d v) w → Q (.panic c) a w) : ∀ (n : Nat) (pl : PlW) (S : World → Prop) (listed : Array Bool) (a : Act) (w : World), planWB md ops n pl listed = true → S w →
    wpPlanW P ops Q (planWL l pl) S a w → wpAnyH P md ops Q S n listed a w
  | 0, .done, S, listed, a, w, hB, hS, h => ⟨of_decide_eq_true hB, h⟩
  | 0, .take _ _, S, listed, a, w, hB, hS, h => by simp [planWB] at hB
  | 0, .turn _ _, S, listed, a, w, hB, hS, h => by simp [planWB] at hB
  | 0, .fork _ _ _ _, S, listed, a, w, hB, hS, h => by simp [planWB] at hB
  | 0, .tri _ _ _ _ _ _, S, listed, a, w, hB, hS, h => by simp [planWB] at hB
  | n + 1, .done, S, listed, a, w, hB, hS, h => by simp [planWB] at hB
  | n + 1, .turn i r, S, listed, a, w, hB, hS, h => by
    simp only [planWB, Bool.and_eq_true, decide_eq_true_eq] at hB
    obtain ⟨hr, hB'⟩ := hB
    have hi : i ∈ Region.ready md ops listed := by rw [hr]; simp
    obtain ⟨_, o, ho, _⟩ := mem_ready.1 hi
    have hlo : l[i]? = some o := by rw [hl] at ho; simpa using ho
    simp only [planWL, hlo] at h
    refine wpAnyH_all hr (by simp) (fun j hj => ?_)
    obtain rfl : j = i := by simpa using hj
    · have hw : wpOp P ops Q j (fun a' w' => ∃ S', (∀ W, S' W → S W) ∧ S' w' ∧ wpPlanW P ops Q (planWL l r) S' a' w') a w := by
        unfold wpOp
        rw [ho]
        exact h
      exact wpOp_mono (fun a' w' ⟨S', h1, h2, h3⟩ => ⟨h1 w' h2, wpAnyH_weakW h1 _ _ _ _ (planW_any hl hsel hQ n r S' _ a' w' hB' h2 h3)⟩) hw
  | n + 1, .fork i r k r', S, listed, a, w, hB, hS, h => by
    simp only [planWB, Bool.and_eq_true, decide_eq_true_eq] at hB
    obtain ⟨⟨hr, hB'⟩, hB2⟩ := hB
    have hi : i ∈ Region.ready md ops listed := by rw [hr]; simp
    have hk : k ∈ Region.ready md ops listed := by rw [hr]; simp
    obtain ⟨_, o, ho, _⟩ := mem_ready.1 hi
    obtain ⟨_, o', ho', _⟩ := mem_ready.1 hk
    have hlo : l[i]? = some o := by rw [hl] at ho; simpa using ho
    have hlo' : l[k]? = some o' := by rw [hl] at ho'; simpa using ho'
    simp only [planWL, hlo, hlo'] at h
    refine wpAnyH_all hr (by simp) (fun j hj => ?_)
    have hj2 : j = i ∨ j = k := by simpa using hj
    rcases hj2 with rfl | rfl
    · have hw : wpOp P ops Q j (fun a' w' => ∃ S', (∀ W, S' W → S W) ∧ S' w' ∧ wpPlanW P ops Q (planWL l r) S' a' w') a w := by
        unfold wpOp
        rw [ho]
        exact h.1
      exact wpOp_mono (fun a' w' ⟨S', h1, h2, h3⟩ => ⟨h1 w' h2, wpAnyH_weakW h1 _ _ _ _ (planW_any hl hsel hQ n r S' _ a' w' hB' h2 h3)⟩) hw
    · have hw : wpOp P ops Q j (fun a' w' => ∃ S', (∀ W, S' W → S W) ∧ S' w' ∧ wpPlanW P ops Q (planWL l r') S' a' w') a w := by
        unfold wpOp
        rw [ho']
        exact h.2
      exact wpOp_mono (fun a' w' ⟨S', h1, h2, h3⟩ => ⟨h1 w' h2, wpAnyH_weakW h1 _ _ _ _ (planW_any hl hsel hQ n r' S' _ a' w' hB2 h2 h3)⟩) hw
  | n + 1, .tri i r k r' m r'', S, listed, a, w, hB, hS, h => by
    simp only [planWB, Bool.and_eq_true, decide_eq_true_eq] at hB
    obtain ⟨⟨⟨hr, hB'⟩, hB2⟩, hB3⟩ := hB
    have hi : i ∈ Region.ready md ops listed := by rw [hr]; simp
    have hk : k ∈ Region.ready md ops listed := by rw [hr]; simp
    have hm : m ∈ Region.ready md ops listed := by rw [hr]; simp
    obtain ⟨_, o, ho, _⟩ := mem_ready.1 hi
    obtain ⟨_, o', ho', _⟩ := mem_ready.1 hk
    obtain ⟨_, o'', ho'', _⟩ := mem_ready.1 hm
    have hlo : l[i]? = some o := by rw [hl] at ho; simpa using ho
    have hlo' : l[k]? = some o' := by rw [hl] at ho'; simpa using ho'
    have hlo'' : l[m]? = some o'' := by rw [hl] at ho''; simpa using ho''
    simp only [planWL, hlo, hlo', hlo''] at h
    refine wpAnyH_all hr (by simp) (fun j hj => ?_)
    have hj2 : j = i ∨ j = k ∨ j = m := by simpa using hj
    rcases hj2 with rfl | rfl | rfl
    · have hw : wpOp P ops Q j (fun a' w' => ∃ S', (∀ W, S' W → S W) ∧ S' w' ∧ wpPlanW P ops Q (planWL l r) S' a' w') a w := by
        unfold wpOp
        rw [ho]
        exact h.1
      exact wpOp_mono (fun a' w' ⟨S', h1, h2, h3⟩ => ⟨h1 w' h2, wpAnyH_weakW h1 _ _ _ _ (planW_any hl hsel hQ n r S' _ a' w' hB' h2 h3)⟩) hw
    · have hw : wpOp P ops Q j (fun a' w' => ∃ S', (∀ W, S' W → S W) ∧ S' w' ∧ wpPlanW P ops Q (planWL l r') S' a' w') a w := by
        unfold wpOp
        rw [ho']
        exact h.2.1
      exact wpOp_mono (fun a' w' ⟨S', h1, h2, h3⟩ => ⟨h1 w' h2, wpAnyH_weakW h1 _ _ _ _ (planW_any hl hsel hQ n r' S' _ a' w' hB2 h2 h3)⟩) hw
    · have hw : wpOp P ops Q j (fun a' w' => ∃ S', (∀ W, S' W → S W) ∧ S' w' ∧ wpPlanW P ops Q (planWL l r'') S' a' w') a w := by
        unfold wpOp
        rw [ho'']
        exact h.2.2
      exact wpOp_mono (fun a' w' ⟨S', h1, h2, h3⟩ => ⟨h1 w' h2, wpAnyH_weakW h1 _ _ _ _ (planW_any hl hsel hQ n r'' S' _ a' w' hB3 h2 h3)⟩) hw
  | n + 1, .take i r, S, listed, a, w, hB, hS, h => by
    simp only [planWB, Bool.and_eq_true] at hB
    obtain ⟨⟨hr, hf⟩, hB'⟩ := hB
    have hi : i ∈ Region.ready md ops listed := by simpa using hr
    obtain ⟨_, o, ho, _⟩ := mem_ready.1 hi
    have hlo : l[i]? = some o := by rw [hl] at ho; simpa using ho
    simp only [planWL, hlo] at h
    obtain ⟨v, hy, h'⟩ := h
    exact wpAnyH_take ho hsel hf hr (fun c a w => hQ c a _ _ w) hy hS (planW_any hl hsel hQ n r S _ _ w hB' hS h')

/-- A REGION THAT DRAWS ITS ORDER, walked by a plan that forks. -/
theorem wp_planW {id : Nat} {a : Act} {w : World} {l : List Oper} (S : World → Prop) (pl : PlW) (hm : P.follows .mixedOrders = true)
    (hB : (Region.noSelect l.toArray && planWB .any l.toArray l.length pl (Array.replicate l.length false)) = true)
    (hS : S w.drew) (h : wpPlanW P l.toArray (NoPanic Q) (planWL l pl) S a w.drew) : (Code.region id l.toArray true).wp P Q a w := by
  simp only [Bool.and_eq_true] at hB
  obtain ⟨h1, h3⟩ := hB
  refine wp_region_noPanic ?_
  refine wp_region_held (S := S) hm ?_
  have := planW_any (md := .any) rfl h1 (fun c a d v w h => h) l.length pl S _ a w.drew h3 hS h
  simpa using this
end

end Go.Proofs.YtnpfaajhgghpgaaGreatDoor

namespace Go.Proofs.YtnpfaajhgghpgaaGreatDoor
open Go.Shelf Go.RowKit Go.Maps
open Ru (TabAt Zbx)
set_option linter.unusedVariables false

/-- A letter and a number. -/
def tlNm (c : UInt8) (n : Nat) : ByteArray := ⟨#[c]⟩ ++ ⟨(Lib.itoa (n : Int)).toArray⟩
def tlKind (k : Nat) : Int := ([1, 2, 3, 4, 0, 5, 6, 7, 9, 11, 11, 12, 13] : List Int).getD k 0
def tlBit (v i : Nat) : Bool := decide (v / 4 / 2 ^ i % 2 = 1)
def tlTag (v : Nat) : List ByteArray := ([0, 1, 2].filter (tlBit v)).map (tlNm 116)
def tlTags (v : Nat) : ByteArray := ⟨(Lib.join ((tlTag v).map (·.data.toList)) [44]).toArray⟩
/-- The text of a listing. -/
def tlList (m : ByteArray) (v : Nat) : ByteArray := m ++ ⟨#[59]⟩ ++ tlTags v
/-- The event of a step that tells one. -/
def tlEv (x0 x1 x2 x3 : Nat) (num tick : Int) : Ev :=
  if tlKind (x0 % 16) = 7 ∨ tlKind (x0 % 16) = 9 then ⟨tlNm 115 (x0 / 16 % 2), num, max (tick - 5 * (x0 / 32 : Nat)) 0, tlKind (x0 % 16), tlNm 112 (x1 % 4), ⟨#[]⟩, 0, tlNm 109 (x3 % 3)⟩
  else if tlKind (x0 % 16) = 11 then ⟨tlNm 115 (x0 / 16 % 2), num, max (tick - 5 * (x0 / 32 : Nat)) 0, tlKind (x0 % 16), ⟨#[]⟩, tlNm 105 (x2 % 6), x3, tlList (tlNm 109 (x3 % 3)) x3⟩
  else if tlKind (x0 % 16) = 12 then ⟨tlNm 115 (x0 / 16 % 2), num, max (tick - 5 * (x0 / 32 : Nat)) 0, tlKind (x0 % 16), ⟨#[]⟩, tlNm 105 (x2 % 6), (x3 % 3 : Nat), ⟨#[]⟩⟩
  else if tlKind (x0 % 16) = 13 then ⟨tlNm 115 (x0 / 16 % 2), num, max (tick - 5 * (x0 / 32 : Nat)) 0, tlKind (x0 % 16), ⟨#[]⟩, tlNm 105 (x2 % 6), 0, ⟨#[]⟩⟩
  else if tlKind (x0 % 16) = 4 then ⟨tlNm 115 (x0 / 16 % 2), num, max (tick - 5 * (x0 / 32 : Nat)) 0, tlKind (x0 % 16), tlNm 112 (x1 % 4), tlNm 105 (x2 % 6), 1 + (x3 % 5 : Nat), ⟨#[]⟩⟩
  else ⟨tlNm 115 (x0 / 16 % 2), num, max (tick - 5 * (x0 / 32 : Nat)) 0, tlKind (x0 % 16), tlNm 112 (x1 % 4), tlNm 105 (x2 % 6), 0, ⟨#[]⟩⟩

/-! ### what is told may be -/
theorem tlNm_name (c : UInt8) (n : Nat) (hc : c = 115 ∨ c = 112 ∨ c = 105 ∨ c = 109) (hn : n < 6) : nameB (tlNm c n) = true := by
  have h : ∀ c ∈ [(115 : UInt8), 112, 105, 109], ∀ n ∈ [0, 1, 2, 3, 4, 5], nameB (tlNm c n) = true := by decide +kernel
  refine h c ?_ n ?_
  · rcases hc with rfl | rfl | rfl | rfl <;> simp
  · have : n = 0 ∨ n = 1 ∨ n = 2 ∨ n = 3 ∨ n = 4 ∨ n = 5 := by omega
    rcases this with rfl | rfl | rfl | rfl | rfl | rfl <;> simp
theorem tlList_ok (v : Nat) (h : v < 256) : listB (tlList (tlNm 109 (v % 3)) v) = true ∧ (tlList (tlNm 109 (v % 3)) v).size ≤ 20 := by
  have h2 : ((List.range 256).all fun v => listB (tlList (tlNm 109 (v % 3)) v) && decide ((tlList (tlNm 109 (v % 3)) v).size ≤ 20)) = true := by decide +kernel
  rw [List.all_eq_true] at h2
  have := h2 v (List.mem_range.2 h)
  rwa [Bool.and_eq_true, decide_eq_true_iff] at this
theorem tlNm_size (c : UInt8) (n : Nat) (hn : n < 6) : (tlNm c n).size = 2 := by
  have h : ∀ n ∈ [0, 1, 2, 3, 4, 5], (⟨(Lib.itoa ((n : Nat) : Int)).toArray⟩ : ByteArray).size = 1 := by decide +kernel
  have hm : n ∈ [0, 1, 2, 3, 4, 5] := by
    have : n = 0 ∨ n = 1 ∨ n = 2 ∨ n = 3 ∨ n = 4 ∨ n = 5 := by omega
    rcases this with rfl | rfl | rfl | rfl | rfl | rfl <;> simp
  unfold tlNm
  rw [ByteArray.size_append, h n hm]
  rfl
/-- What a tale tells: by four bytes. -/
def TEv (e : Ev) : Prop := ∃ x0 x1 x2 x3 : Nat, ∃ num tick : Int, x0 % 16 < 13 ∧ x0 < 256 ∧ x3 < 256 ∧ (1 ≤ num ∧ num ≤ 1000) ∧ (0 ≤ tick ∧ tick ≤ 100000) ∧ e = tlEv x0 x1 x2 x3 num tick
theorem tlEv_few (x0 x1 x2 x3 : Nat) (num tick : Int) (h3 : x3 < 256) : EvFew (tlEv x0 x1 x2 x3 num tick) := by
  have a0 := tlNm_size 115 (x0 / 16 % 2) (by omega)
  have a1 := tlNm_size 112 (x1 % 4) (by omega)
  have a2 := tlNm_size 105 (x2 % 6) (by omega)
  have a3 := tlNm_size 109 (x3 % 3) (by omega)
  have a4 := (tlList_ok x3 h3).2
  have e0 : (⟨#[]⟩ : ByteArray).size = 0 := rfl
  unfold tlEv EvFew
  split
  · dsimp only; omega
  split
  · dsimp only; omega
  split
  · dsimp only; omega
  split
  · dsimp only; omega
  split
  · dsimp only; omega
  · dsimp only; omega
theorem tlEv_tick (x0 x1 x2 x3 : Nat) (num tick : Int) : (tlEv x0 x1 x2 x3 num tick).tick = max (tick - 5 * (x0 / 32 : Nat)) 0 ∧ (tlEv x0 x1 x2 x3 num tick).src = tlNm 115 (x0 / 16 % 2) ∧ (tlEv x0 x1 x2 x3 num tick).num = num := by
  unfold tlEv
  split
  · exact ⟨rfl, rfl, rfl⟩
  split
  · exact ⟨rfl, rfl, rfl⟩
  split
  · exact ⟨rfl, rfl, rfl⟩
  split
  · exact ⟨rfl, rfl, rfl⟩
  split
  · exact ⟨rfl, rfl, rfl⟩
  · exact ⟨rfl, rfl, rfl⟩
theorem TEv.few {e : Ev} (h : TEv e) : EvFew e := by
  obtain ⟨x0, x1, x2, x3, num, tick, _, _, h3, _, _, rfl⟩ := h
  exact tlEv_few _ _ _ _ _ _ h3
theorem TEv.may {e : Ev} (h : TEv e) : mayB e = true := by
  obtain ⟨x0, x1, x2, x3, num, tick, hk, h0, h3, hn, ht, rfl⟩ := h
  obtain ⟨t1, t2, t3⟩ := tlEv_tick x0 x1 x2 x3 num tick
  have q : x0 % 16 = 0 ∨ x0 % 16 = 1 ∨ x0 % 16 = 2 ∨ x0 % 16 = 3 ∨ x0 % 16 = 4 ∨ x0 % 16 = 5 ∨ x0 % 16 = 6 ∨ x0 % 16 = 7 ∨ x0 % 16 = 8 ∨ x0 % 16 = 9 ∨ x0 % 16 = 10 ∨ x0 % 16 = 11 ∨ x0 % 16 = 12 := by omega
  have hp := tlNm_name 112 (x1 % 4) (by simp) (by omega)
  have hi := tlNm_name 105 (x2 % 6) (by simp) (by omega)
  have hm := tlNm_name 109 (x3 % 3) (by simp) (by omega)
  have hl := (tlList_ok x3 h3).1
  unfold mayB
  rw [t1, t2, t3, tlNm_name 115 _ (by simp) (by omega), decide_eq_true (by omega), decide_eq_true (by omega), Bool.true_and, Bool.true_and, Bool.true_and]
  have em : empB ⟨#[]⟩ = true := by decide +kernel
  unfold tlEv
  rcases q with q | q | q | q | q | q | q | q | q | q | q | q | q <;> rw [q] <;> simp [tlKind, kindB, hp, hi, hm, hl, em] <;> omega

/-! ### steps -/
structure Stp where
  what : Int
  ev : Ev
  person : ByteArray
  now : Int
  keep : Int
  of_ : Int
def stpC (s : Stp) : List Value := .int .i64 s.what :: (evC s.ev ++ [.string s.person, .int .i64 s.now, .int .i64 s.keep, .int .i64 s.of_])
theorem stpC_len (s : Stp) : (stpC s).length = 13 := rfl
def evZ0 : Ev := ⟨⟨#[]⟩, 0, 0, 0, ⟨#[]⟩, ⟨#[]⟩, 0, ⟨#[]⟩⟩
def tlTells (L : List Stp) : List Ev := (L.filter fun s => decide (s.what = 0)).map (·.ev)
theorem tells_snoc (L : List Stp) (s : Stp) : tlTells (L ++ [s]) = tlTells L ++ (if s.what = 0 then [s.ev] else []) := by
  unfold tlTells
  rw [List.filter_append, List.map_append, List.filter_cons]
  by_cases h : s.what = 0 <;> simp [h]
def SameId (a b : Ev) : Prop := a.src = b.src ∧ a.num = b.num
def tlCnt (a b : Nat) (s : Nat) : Nat := if s = 0 then a else b
/-- What holds as far as a tale is told: so many events of each source. -/
structure TlI (a b : Nat) (E : Int) (L : List Stp) : Prop where
  ev : ∀ e ∈ tlTells L, TEv e ∧ e.tick ≤ E ∧ ∃ s : Nat, s < 2 ∧ e.src = tlNm 115 s ∧ e.num ≤ tlCnt a b s
  ids : (tlTells L).Pairwise fun x y => ¬ SameId x y
  pos : 1000 ≤ E ∧ E ≤ 1000 + 15 * L.length
  few : a + b ≤ L.length
theorem TlI.start : TlI 0 0 1000 [] := ⟨fun e he => by (cases he), List.Pairwise.nil, by simp, by simp⟩
theorem tlNm_inj {a b : Nat} (ha : a < 2) (hb : b < 2) (h : tlNm 115 a = tlNm 115 b) : a = b := by
  have q : ∀ a ∈ [0, 1], ∀ b ∈ [0, 1], (tlNm 115 a).data.toList = (tlNm 115 b).data.toList → a = b := by decide +kernel
  have ma : ∀ a : Nat, a < 2 → a ∈ [0, 1] := fun a h => by
    have : a = 0 ∨ a = 1 := by omega
    rcases this with rfl | rfl <;> simp
  exact q a (ma a ha) b (ma b hb) (by rw [h])
/-- A step that tells nothing. -/
theorem TlI.other {a b : Nat} {E : Int} {L : List Stp} (h : TlI a b E L) {s : Stp} (hs : s.what ≠ 0) {d : Nat} (hd : d < 16) : TlI a b (E + d) (L ++ [s]) := by
  obtain ⟨h1, h2, h3, h4⟩ := h
  have e : tlTells (L ++ [s]) = tlTells L := by rw [tells_snoc, if_neg hs, List.append_nil]
  refine ⟨fun x hx => ?_, by rw [e]; exact h2, ?_, ?_⟩
  · rw [e] at hx
    obtain ⟨k1, k2, k3⟩ := h1 x hx
    exact ⟨k1, by omega, k3⟩
  · rw [List.length_append, List.length_singleton]; omega
  · rw [List.length_append, List.length_singleton]; omega
/-- One that tells an event. -/
theorem TlI.told {a b : Nat} {E : Int} {L : List Stp} (h : TlI a b E L) {x0 x1 x2 x3 : Nat} (hk : x0 % 16 < 13) (h0 : x0 < 256) (h3 : x3 < 256) (hL : L.length ≤ 100) {p : ByteArray} {n k o : Int} {d : Nat} (hd : d < 16) :
    TlI (if x0 / 16 % 2 = 0 then a + 1 else a) (if x0 / 16 % 2 = 0 then b else b + 1) (E + d) (L ++ [⟨0, tlEv x0 x1 x2 x3 ((tlCnt a b (x0 / 16 % 2) : Nat) + 1) E, p, n, k, o⟩]) := by
  obtain ⟨h1, h2, h3', h4⟩ := h
  obtain ⟨t1, t2, t3⟩ := tlEv_tick x0 x1 x2 x3 ((tlCnt a b (x0 / 16 % 2) : Nat) + 1) E
  obtain ⟨z, hz⟩ : ∃ z, x0 / 16 % 2 = z := ⟨_, rfl⟩
  have hz2 : z < 2 := by omega
  have hTE : TEv (tlEv x0 x1 x2 x3 ((tlCnt a b (x0 / 16 % 2) : Nat) + 1) E) := ⟨x0, x1, x2, x3, _, _, hk, h0, h3, by rw [hz]; unfold tlCnt; split <;> omega, by omega, rfl⟩
  generalize hX : tlEv x0 x1 x2 x3 ((tlCnt a b (x0 / 16 % 2) : Nat) + 1) E = X at *
  rw [hz] at t2 t3 ⊢
  have e : tlTells (L ++ [⟨0, X, p, n, k, o⟩]) = tlTells L ++ [X] := by rw [tells_snoc, if_pos rfl]
  refine ⟨fun x hx => ?_, ?_, ?_, ?_⟩
  · rw [e] at hx
    rcases List.mem_append.1 hx with hx | hx
    · obtain ⟨k1, k2, s, k3, k4, k5⟩ := h1 x hx
      refine ⟨k1, by omega, s, k3, k4, ?_⟩
      unfold tlCnt at k5 ⊢
      split at k5 <;> (repeat' split) <;> omega
    · rw [List.mem_singleton] at hx
      subst hx
      refine ⟨hTE, by rw [t1]; omega, z, hz2, t2, ?_⟩
      rw [t3]
      unfold tlCnt
      (repeat' split) <;> omega
  · rw [e]
    refine List.pairwise_append.2 ⟨h2, List.pairwise_singleton _ _, fun x hx y hy => ?_⟩
    rw [List.mem_singleton] at hy
    subst hy
    obtain ⟨_, _, s, k3, k4, k5⟩ := h1 x hx
    rintro ⟨i1, i2⟩
    rw [k4, t2] at i1
    have := tlNm_inj k3 hz2 i1
    subst this
    rw [t3] at i2
    omega
  · rw [List.length_append, List.length_singleton]; omega
  · rw [List.length_append, List.length_singleton]; split <;> omega
end Go.Proofs.YtnpfaajhgghpgaaGreatDoor

namespace Go.Proofs.YtnpfaajhgghpgaaGreatDoor
open Go.Shelf Go.RowKit Go.Maps
open Ru (TabAt Zbx)
set_option linter.unusedVariables false

/-- The byte at a place, 0 behind the end. -/
def byAt (l : List UInt8) (k : Nat) : Nat := match l[k]? with | some z => z.toNat | none => 0
theorem byAt_lt (l : List UInt8) (k : Nat) : byAt l k < 256 := by
  unfold byAt
  split
  · exact UInt8.toNat_lt _
  · omega
def byC (l : List UInt8) : List Value := l.map fun z => .int .u8 (z.toNat : Int)
/-- A slice of bytes. -/
def BysAt (w : World) (B : Nat) (A : Option Addr) (l : List UInt8) : Prop := RowIn w B 1 A l.length (byC l)
theorem BysAt.at {w : World} {B : Nat} {A : Option Addr} {l : List UInt8} (h : BysAt w B A l) {k : Nat} {z : UInt8} (hz : l[k]? = some z) : ∃ b off, A = some ⟨b, off, none⟩ ∧ b < B ∧ w.cell? ⟨b, off + k, none⟩ = some (.int .u8 (z.toNat : Int)) := by
  obtain ⟨b, off, hA, hb, hc⟩ := RowIn.at h (by have := (List.getElem?_eq_some_iff.1 hz).1; omega)
  refine ⟨b, off, hA, hb, hc k _ ?_⟩
  unfold byC
  rw [List.getElem?_map, hz]
  rfl
set_option maxHeartbeats 1000000 in
set_option maxRecDepth 100000 in
theorem tat_any (w : World) (bb B n c : Nat) (A : Option Addr) (l : List UInt8) (k : Nat) (hn : l.length = n) (hb : w.cell? ⟨bb, 0, none⟩ = some (.slice A n c)) (hl : BysAt w B A l) (hk : k ≤ 1000) :
    Calls Tryz.prog 37 #[.int .i64 k, .pointer (some ⟨bb, 0, none⟩)] w fun e w' => e = .returned (.int .i64 (byAt l k : Nat)) ∧ w = w' := by
  by_cases hlt : k < n
  · obtain ⟨z, hz⟩ : ∃ z, l[k]? = some z := ⟨l[k]'(by rw [hn]; exact hlt), List.getElem?_eq_getElem _⟩
    obtain ⟨b, off, rfl, hbB, hc⟩ := hl.at hz
    have hby : byAt l k = z.toNat := by unfold byAt; rw [hz]
    have hk8 : (k : Int) < (n : Int) := by omega
    have hk9 : (0 : Int) ≤ (k : Int) := by omega
    have hz8 : z.toNat < 256 := UInt8.toNat_lt z
    rw [hby]
    obtain ⟨q, hq⟩ : ∃ q, z.toNat = q := ⟨_, rfl⟩
    rw [hq] at hc hz8 ⊢
    clear hl hz hby hq hn
    go_enter Tryz.func37, Tryz.ntmps37
    go_wp2_with fail
    go_ret
    exact ⟨by first | rfl | (refine Zb2 ?_; exact IntWalk.i64_in _ (by omega)), rfl⟩
  · have hby : byAt l k = 0 := by unfold byAt; rw [List.getElem?_eq_none (by omega)]
    have hk8 : ¬ (k : Int) < (n : Int) := by omega
    rw [hby]
    clear hl hby hn
    go_enter Tryz.func37, Tryz.ntmps37
    go_wp2_with fail
    go_ret
    exact ⟨rfl, rfl⟩

set_option maxHeartbeats 1000000 in
theorem numb_any (c : UInt8) (n : Nat) (hn : n ≤ 1000000) (w : World) (ht : TabAt w) : Calls Tryz.prog 39 #[.string ⟨#[c]⟩, .int .i64 n] w fun e w' => e = .returned (.string (tlNm c n)) ∧ Below w.heap.size w w' := by
  have HI := Lib.hid (Zbx (n : Int) (by omega) (by omega) w ht)
  have hl : ¬ 9223372036854775807 < 1 + (Lib.itoa (n : Int)).length := by
    have := Lib.itoa_length_le (n : Int) (by omega) (by omega)
    omega
  clear ht
  go_enter Tryz.func39, Tryz.ntmps39
  go_wp2_with fail
  refine HI.out.mono ?_
  rintro e w1 ⟨rfl, hb1⟩
  have HB1 := Lib.hid hb1
  clear hb1 HI
  go_wp2_with fail
  go_ret
  exact ⟨rfl, HB1.out⟩
end Go.Proofs.YtnpfaajhgghpgaaGreatDoor

namespace Go.Proofs.YtnpfaajhgghpgaaGreatDoor
open Go.Shelf Go.RowKit Go.Maps
open Ru (TabAt Zbx)
set_option linter.unusedVariables false

/-- The first bytes. -/
def b8A (y : Nat → Nat) : Array Value := #[.int .i64 (y 0 : Nat), .int .i64 (y 1 : Nat), .int .i64 (y 2 : Nat), .int .i64 (y 3 : Nat), .int .i64 (y 4 : Nat), .int .i64 (y 5 : Nat), .int .i64 (y 6 : Nat), .int .i64 (y 7 : Nat)]
def wgt (k j : Nat) : Value := .int .i64 (if j < k then 100 else 0)
/-- Settings, with so many weights. -/
def tsArr (y : Nat → Nat) (k : Nat) : Array Value := #[.int .i64 (1 + 10 * (y 0 : Int)), .int .i64 (1 + ((y 1 % 20 : Nat) : Int)), .int .i64 (1 + ((y 2 % 50 : Nat) : Int)), .int .i64 ((1 + ((y 1 % 20 : Nat) : Int)) * (1 + ((y 3 % 4 : Nat) : Int))), .int .i64 ((y 4 % 3 : Nat) : Int), .int .i64 ((y 5 % 3 : Nat) : Int), wgt k 0, wgt k 1, wgt k 2, wgt k 3, wgt k 4, wgt k 5, .int .i64 4, .int .i64 2, .int .i64 3, .int .i64 1073741824, .int .i64 0, .int .i64 5, .int .i64 (y 6 % 4 : Nat), .string ⟨#[115, 116, 111, 99, 107, 62, 48]⟩, .string ⟨#[111, 119, 110]⟩, .int .u64 (y 7 : Nat)]
theorem tsArr_size (y : Nat → Nat) (k : Nat) : (tsArr y k).size = 22 := rfl
theorem tsArr_set (y : Nat → Nat) {k : Nat} (hk : k < 6) : (tsArr y k).setIfInBounds (6 + k) (.int .i64 100) = tsArr y (k + 1) := by
  have : k = 0 ∨ k = 1 ∨ k = 2 ∨ k = 3 ∨ k = 4 ∨ k = 5 := by omega
  rcases this with rfl | rfl | rfl | rfl | rfl | rfl <;> rfl
theorem put_ts (y : Nat → Nat) (k : Nat) : putA #[.int .i64 0, .int .i64 0, .int .i64 0, .int .i64 0, .int .i64 0, .int .i64 0, .int .i64 0, .int .i64 0, .int .i64 0, .int .i64 0, .int .i64 0, .int .i64 0, .int .i64 0, .int .i64 0, .int .i64 0, .int .i64 0, .int .i64 0, .int .i64 0, .int .i64 0, .string ⟨#[]⟩, .string ⟨#[]⟩, .int .u64 0] 0 (tsArr y k).toList = tsArr y k := by
  simp only [tsArr, putA, List.setIfInBounds_toArray, List.set_cons_zero, List.set_cons_succ]
theorem tsg_info : (Tryz.prog.info? 32).map (·.size) = some 22 := by kernel_rfl
theorem load_ts {w : World} {tb : Nat} {y : Nat → Nat} {k : Nat} (h : Blk w tb 32 (tsArr y k)) : (loadVar 32 ⟨tb, 0, none⟩).run Tryz.prog w = .ok (.agg (tsArr y k)) w :=
  run_loadVar_row w tb _ _ (tsArr y k) (0, 0) _ h Tryz.underlying32 rfl tsg_info
theorem tmod_nat (a b : Nat) : Int.tmod (a : Int) (b : Int) = ((a % b : Nat) : Int) := by rw [Int.natCast_emod]; exact Int.tmod_eq_emod_of_nonneg (by omega)
theorem tdiv_nat (a b : Nat) : Int.tdiv (a : Int) (b : Int) = ((a / b : Nat) : Int) := by rw [Int.natCast_ediv]; exact Int.tdiv_eq_ediv_of_nonneg (by omega)
/-- A struct, or an array, that is loaded whole. -/
theorem wpList_load_whole {P : Program} {ops : Array Oper} {rest : List Oper} {o : Oper} {a : Act} {w : World} {Q : Exit → Act → World → Prop} (hgd : o.guard = none) (ty : TypeId) (x : Operand) (ho : o.op = .load ty x) (p : Addr) (hx : a.eval x = .pointer (some p)) {v : Value}
    (hl : (loadVar ty p).run P w = .ok v w) (h : wpList P ops Q rest (a.put o.dst v) w) : wpList P ops Q (o :: rest) a w := by
  refine wpList_plain hgd fun K hK => ?_
  unfold Oper.wp execOp
  simp only [ho, hx, Instr.loadAt, Instr.sureAddr, Sem.run_bind, Sem.run_pure, Result.andThen_ok, hl]
  exact hK _ _ h

set_option maxHeartbeats 8000000 in
set_option maxRecDepth 100000 in
theorem tset_any (y : Nat → Nat) (hy : ∀ j, y j < 256) (w : World) : Calls Tryz.prog 38 #[.agg (b8A y)] w fun e w' => e = .returned (.agg (tsArr y 6)) ∧ Below w.heap.size w w' := by
  obtain ⟨w1, hw1⟩ : ∃ w1, w.alloc (.cells (b8A y) 106) = w1 := ⟨_, rfl⟩
  have HX1 : Hid (Blk w1 w.heap.size 106 (b8A y)) := Lib.hid (by rw [← hw1]; exact Blk.new _ _ _)
  have HB1 : Hid (Below w.heap.size w w1) := Lib.hid (by rw [← hw1]; exact (Below.refl _ _).alloc (Nat.le_refl _) _)
  have hz1 : w1.heap.size = w.heap.size + 1 := by rw [← hw1]; simp
  obtain ⟨Z, hZ⟩ : ∃ Z : Array Value, Z = #[.int .i64 0, .int .i64 0, .int .i64 0, .int .i64 0, .int .i64 0, .int .i64 0, .int .i64 0, .int .i64 0, .int .i64 0, .int .i64 0, .int .i64 0, .int .i64 0, .int .i64 0, .int .i64 0, .int .i64 0, .int .i64 0, .int .i64 0, .int .i64 0, .int .i64 0, .string ⟨#[]⟩, .string ⟨#[]⟩, .int .u64 0] := ⟨_, rfl⟩
  obtain ⟨w2, hw2⟩ : ∃ w2, w1.alloc (.cells Z 32) = w2 := ⟨_, rfl⟩
  have HB2 : Hid (Below w.heap.size w w2) := Lib.hid (by rw [← hw2]; exact HB1.out.alloc HB1.out.size _)
  have HX2 : Hid (Blk w2 w.heap.size 106 (b8A y)) := Lib.hid (by rw [← hw2]; exact HX1.out.alloc _)
  have HR2 : Hid (Blk w2 w1.heap.size 32 Z) := Lib.hid (by rw [← hw2]; exact Blk.new _ _ _)
  have c0 : w2.cell? ⟨w.heap.size, 0, none⟩ = some (.int .i64 (y 0 : Nat)) := HX2.out.cell 0
  have c1 : w2.cell? ⟨w.heap.size, 1, none⟩ = some (.int .i64 (y 1 : Nat)) := HX2.out.cell 1
  have c2 : w2.cell? ⟨w.heap.size, 2, none⟩ = some (.int .i64 (y 2 : Nat)) := HX2.out.cell 2
  have c3 : w2.cell? ⟨w.heap.size, 3, none⟩ = some (.int .i64 (y 3 : Nat)) := HX2.out.cell 3
  have c4 : w2.cell? ⟨w.heap.size, 4, none⟩ = some (.int .i64 (y 4 : Nat)) := HX2.out.cell 4
  have c5 : w2.cell? ⟨w.heap.size, 5, none⟩ = some (.int .i64 (y 5 : Nat)) := HX2.out.cell 5
  have c6 : w2.cell? ⟨w.heap.size, 6, none⟩ = some (.int .i64 (y 6 : Nat)) := HX2.out.cell 6
  have c7 : w2.cell? ⟨w.heap.size, 7, none⟩ = some (.int .i64 (y 7 : Nat)) := HX2.out.cell 7
  have b0 := hy 0
  have b7 := hy 7
  obtain ⟨r1, hr1⟩ : ∃ r, y 1 % 20 = r := ⟨_, rfl⟩
  obtain ⟨r2, hr2⟩ : ∃ r, y 2 % 50 = r := ⟨_, rfl⟩
  obtain ⟨r3, hr3⟩ : ∃ r, y 3 % 4 = r := ⟨_, rfl⟩
  obtain ⟨r4, hr4⟩ : ∃ r, y 4 % 3 = r := ⟨_, rfl⟩
  obtain ⟨r5, hr5⟩ : ∃ r, y 5 % 3 = r := ⟨_, rfl⟩
  obtain ⟨r6, hr6⟩ : ∃ r, y 6 % 4 = r := ⟨_, rfl⟩
  have k1 : r1 < 20 := by omega
  have k2 : r2 < 50 := by omega
  have k3 : r3 < 4 := by omega
  have k4 : r4 < 3 := by omega
  have k5 : r5 < 3 := by omega
  have k6 : r6 < 4 := by omega
  have m1 : Int.tmod (y 1 : Int) 20 = (r1 : Int) := by rw [← hr1]; exact tmod_nat _ 20
  have m2 : Int.tmod (y 2 : Int) 50 = (r2 : Int) := by rw [← hr2]; exact tmod_nat _ 50
  have m3 : Int.tmod (y 3 : Int) 4 = (r3 : Int) := by rw [← hr3]; exact tmod_nat _ 4
  have m4 : Int.tmod (y 4 : Int) 3 = (r4 : Int) := by rw [← hr4]; exact tmod_nat _ 3
  have m5 : Int.tmod (y 5 : Int) 3 = (r5 : Int) := by rw [← hr5]; exact tmod_nat _ 3
  have m6 : Int.tmod (y 6 : Int) 4 = (r6 : Int) := by rw [← hr6]; exact tmod_nat _ 4
  obtain ⟨q1, hq1⟩ : ∃ q, IntKind.i64.wrap (1 + (r1 : Int)) = q := ⟨_, rfl⟩
  obtain ⟨q2, hq2⟩ : ∃ q, IntKind.i64.wrap (1 + (r2 : Int)) = q := ⟨_, rfl⟩
  obtain ⟨q3, hq3⟩ : ∃ q, IntKind.i64.wrap (1 + (r3 : Int)) = q := ⟨_, rfl⟩
  obtain ⟨s0, hs0⟩ : ∃ q, IntKind.i64.wrap (10 * (y 0 : Int)) = q := ⟨_, rfl⟩
  obtain ⟨q0, hq0⟩ : ∃ q, IntKind.i64.wrap (1 + s0) = q := ⟨_, rfl⟩
  obtain ⟨pp, hpp⟩ : ∃ q, IntKind.i64.wrap (q1 * q3) = q := ⟨_, rfl⟩
  obtain ⟨q7, hq7⟩ : ∃ q, IntKind.u64.wrap (y 7 : Int) = q := ⟨_, rfl⟩
  have HTS : Hid (∀ k, tsArr y k = #[.int .i64 q0, .int .i64 q1, .int .i64 q2, .int .i64 pp, .int .i64 (r4 : Int), .int .i64 (r5 : Int), wgt k 0, wgt k 1, wgt k 2, wgt k 3, wgt k 4, wgt k 5, .int .i64 4, .int .i64 2, .int .i64 3, .int .i64 1073741824, .int .i64 0, .int .i64 5, .int .i64 (r6 : Int), .string ⟨#[115, 116, 111, 99, 107, 62, 48]⟩, .string ⟨#[111, 119, 110]⟩, .int .u64 q7]) := Lib.hid (by
    have e1 : q1 = 1 + (r1 : Int) := by rw [← hq1]; exact IntWalk.i64_in _ (by omega)
    have e2 : q2 = 1 + (r2 : Int) := by rw [← hq2]; exact IntWalk.i64_in _ (by omega)
    have e3 : q3 = 1 + (r3 : Int) := by rw [← hq3]; exact IntWalk.i64_in _ (by omega)
    have es : s0 = 10 * (y 0 : Int) := by rw [← hs0]; exact IntWalk.i64_in _ (by omega)
    have e0 : q0 = 1 + 10 * (y 0 : Int) := by rw [← hq0, es]; exact IntWalk.i64_in _ (by omega)
    have ep : pp = (1 + (r1 : Int)) * (1 + (r3 : Int)) := by
      rw [← hpp, e1, e3]
      have h1 : (1 + (r1 : Int)) * (1 + (r3 : Int)) ≤ 20 * 4 := Int.mul_le_mul (by omega) (by omega) (by omega) (by omega)
      have h2 : 0 ≤ (1 + (r1 : Int)) * (1 + (r3 : Int)) := Int.mul_nonneg (by omega) (by omega)
      obtain ⟨z, hz⟩ : ∃ z, (1 + (r1 : Int)) * (1 + (r3 : Int)) = z := ⟨_, rfl⟩
      rw [hz] at h1 h2 ⊢
      exact IntWalk.i64_in _ (by omega)
    have e7 : q7 = (y 7 : Int) := by rw [← hq7]; first | exact IntWalk.u64_in _ (by omega) | (simp [IntKind.wrap, IntKind.bits, IntKind.signed]; omega)
    intro k
    unfold tsArr
    rw [hr1, hr2, hr3, hr4, hr5, hr6, e0, e1, e2, ep, e7])
  clear b0 b7 k1 k2 k3 k4 k5 k6
  clear hr1 hr2 hr3 hr4 hr5 hr6
  have HY := Lib.hid hy
  unfold b8A
  unfold b8A at hw1
  subst hZ
  clear hy
  go_enter Tryz.func38, Tryz.ntmps38
  go_upto_region 1 with fail
  (try simp only [Exit.inBlock, Exit.then])
  try rw [hw1]
  try rw [hw2]
  clear hw1 hw2 HX2 HX1
  go_upto_region 3 with (first
    | (refine Zad _ rfl 32 (.tmp 4) (.tmp 39) rfl 0 #[.int .i64 q0, .int .i64 q1, .int .i64 q2, .int .i64 pp, .int .i64 (r4 : Int), .int .i64 (r5 : Int), .int .i64 0, .int .i64 0, .int .i64 0, .int .i64 0, .int .i64 0, .int .i64 0, .int .i64 4, .int .i64 2, .int .i64 3, .int .i64 1073741824, .int .i64 0, .int .i64 5, .int .i64 (r6 : Int), .string ⟨#[115, 116, 111, 99, 107, 62, 48]⟩, .string ⟨#[111, 119, 110]⟩, .int .u64 q7] rfl rfl (Blk.new _ _ _) (by show 0 + 22 ≤ 22; omega) tsg_info (by simp [Value.oneCell']) ?_; intro w4 hb4 hk4 hs4)
    | fail)
  (try simp only [Exit.inBlock, Exit.then])
  simp only [putA, List.setIfInBounds_toArray, List.set_cons_zero, List.set_cons_succ] at hb4
  obtain ⟨sb, hsb⟩ : ∃ sb, w2.heap.size = sb := ⟨_, rfl⟩
  have HG4 : Hid (w.heap.size ≤ sb) := Lib.hid (by rw [← hsb]; exact HB2.out.size)
  have HB4 : Hid (Below w.heap.size w w4) := Lib.hid ((HB2.out.alloc HB2.out.size _).trans (hk4.toBelow (fun i hi => by rw [hi]; exact HB2.out.size) (by have := HB2.out.size; simp; omega)))
  have HR4 : Hid (Blk w4 w1.heap.size 32 #[.int .i64 0, .int .i64 0, .int .i64 0, .int .i64 0, .int .i64 0, .int .i64 0, .int .i64 0, .int .i64 0, .int .i64 0, .int .i64 0, .int .i64 0, .int .i64 0, .int .i64 0, .int .i64 0, .int .i64 0, .int .i64 0, .int .i64 0, .int .i64 0, .int .i64 0, .string ⟨#[]⟩, .string ⟨#[]⟩, .int .u64 0]) := Lib.hid ((HR2.out.alloc _).kept hk4 (by have := HR2.out.lt; omega))
  have HS4 : Hid (∃ k : Nat, k = 0 ∧ Blk w4 sb 32 (tsArr y k)) := Lib.hid ⟨0, rfl, by
    rw [HTS.out 0, ← hsb]
    exact hb4⟩
  have HZ4 : Hid (w1.heap.size < sb) := Lib.hid (by have := HR2.out.lt; omega)
  clear hb4 hk4 hs4 HB2 HR2 c0 c1 c2 c3 c4 c5 c6 c7 m1 m2 m3 m4 m5 m6 hq0 hq1 hq2 hq3 hs0 hpp hq7
  try rw [hsb]
  clear hsb
  try rw [← hz1]
  clear hz1
  go_wp2_with fail
  go_loopw [40] (fun i wr => ∃ k : Nat, k ≤ 6 ∧ i = .int .i64 k ∧ Hid (Blk wr sb 32 (tsArr y k)) ∧ Hid (Blk wr w1.heap.size 32 #[.int .i64 0, .int .i64 0, .int .i64 0, .int .i64 0, .int .i64 0, .int .i64 0, .int .i64 0, .int .i64 0, .int .i64 0, .int .i64 0, .int .i64 0, .int .i64 0, .int .i64 0, .int .i64 0, .int .i64 0, .int .i64 0, .int .i64 0, .int .i64 0, .int .i64 0, .string ⟨#[]⟩, .string ⟨#[]⟩, .int .u64 0]) ∧ Hid (Below w.heap.size w wr)) (fun i _ => 6 - (intOf i).toNat)
  case atStart =>
    obtain ⟨k, rfl, hs⟩ := HS4.out
    exact ⟨0, by omega, rfl, Lib.hid hs, HR4, HB4⟩
  case round =>
    obtain ⟨k, hk, rfl, hs, hr, hb⟩ := hrel
    by_cases hlt : k < 6
    · have hk8 : (k : Int) < 6 := by omega
      have hk9 : (0 : Int) ≤ (k : Int) := by omega
      have f0 := hs.out.frozen (6 + k)
      obtain ⟨u, hu⟩ : ∃ u, wr.cell? ⟨sb, 6 + k, none⟩ = some u := by
        rw [hs.out.cell (6 + k)]
        exact ⟨_, Array.getElem?_eq_getElem (by rw [tsArr_size]; omega)⟩
      have HSN : Hid (Blk (wr.setCell ⟨sb, 6 + k, none⟩ (.int .i64 100)) sb 32 (tsArr y (k + 1))) := Lib.hid (by
        have h := hs.out.set_ (6 + k) (.int .i64 100)
        rwa [tsArr_set y hlt] at h)
      have HKN : Hid (Kept (fun q => q = sb) wr (wr.setCell ⟨sb, 6 + k, none⟩ (.int .i64 100))) := Lib.hid ((Kept.refl (fun q => q = sb) wr).setCell (p := ⟨sb, 6 + k, none⟩) (Or.inl rfl) _)
      go_wp2_with fail
      go_roundw
      case rel => exact ⟨k + 1, by omega, by go_num, HSN, Lib.hid (hr.out.kept HKN.out (by have := HZ4.out; omega)), Lib.hid (hb.out.trans (HKN.out.toBelow (fun i hi => by rw [hi]; exact HG4.out) hb.out.size))⟩
      case measure => simp [intOf]; omega
    · obtain rfl : k = 6 := by omega
      have hl := load_ts hs.out
      go_wp2_with (first
        | (refine wpList_load_whole rfl 32 (.tmp 4) rfl _ rfl hl ?_)
        | (refine Zad _ rfl 32 (.tmp 2) (.tmp 47) rfl 0 (tsArr y 6) rfl rfl hr.out (by show 0 + 22 ≤ 22; omega) tsg_info (by simp [tsArr, wgt, Value.oneCell']) ?_; intro w9 hb9 hk9 hs9)
        | fail)
      rw [put_ts] at hb9
      have HX9 : Hid (Blk w9 w1.heap.size 32 (tsArr y 6)) := Lib.hid hb9
      refine bodyPost_ret (Zc7 (rb := w1.heap.size) rfl rfl (load_ts HX9.out)) rfl ?_
      exact ⟨rfl, hb.out.trans (hk9.toBelow (fun i hi => by rw [hi]; exact HB1.out.size) hb.out.size)⟩
end Go.Proofs.YtnpfaajhgghpgaaGreatDoor
