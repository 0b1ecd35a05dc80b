/- What would have to change: the changes that are told for a thing that is not shown, told as events, leave nothing that is against it, if each can be told as events; for a thing that nothing is against nothing is told. For every input (the card of the given row; its ties are given). -/
import Derived.Test.YtnpfaajhgghpgaaGreatDoorCards
import Derived.Test.YtnpfaajhgghpgaaGreatDoorTie
import Derived.Test.YtnpfaajhgghpgaaGreatDoorTwW
import Derived.Test.YtnpfaajhgghpgaaGreatDoorTwO
import Derived.ChangeMaps5
import Derived.WalkKit
import Derived.ProofKit
import Derived.OpenShut
import Derived.ShutString
import Derived.ChangeOld
import Derived.Below
import Derived.Deep.DeepHandedRow
import Derived.Lib.LaidTab
import Derived.Stop.LaidErr
namespace Go.Proofs.YtnpfaajhgghpgaaGreatDoor.topWhynot
open Go.ChangeShapes Go.WideShapes Go.ChangeAt Go.RowKit
set_option linter.unusedVariables false

theorem tab_of {W : World} (hL : laidMet Tryz.prog Rows.topWhynotRow.laid W) : Ru.TabAt W := by
  exact Lib.tabIs_of_head (g := 3) (t := 261) (e := 30) (n := 20) (by kernel_rfl) (by kernel_rfl) (by kernel_rfl) (by kernel_rfl) (by kernel_rfl) (by kernel_rfl) (zs := Lib.pow10Tab) (k := .u64) hL.tail.tail
theorem rowE {nm : String} (hn : nm = nm) (u : TypeId) (h : Tryz.prog.typeName? 3 u = Tryz.prog.typeName? 3 296) : u = 296 :=
  typeName_ptr_named (nm := "errors.errorString") (by kernel_rfl) (by kernel_rfl) (by decide) u (h.trans (by kernel_rfl))
theorem err_of {W : World} (hL : laidMet Tryz.prog Rows.topWhynotRow.laid W) : Ru.ErrAt W := by
  have h4 := hL.tail.tail.tail.tail
  obtain ⟨a0, s0, hv0, _⟩ := laid_sentinel (g := 9) (ti := 206) h4 (by kernel_rfl) (by kernel_rfl) Tryz.underlying206 (fun u h => rowE (nm := "") rfl u (h.trans (by kernel_rfl))) Tryz.underlying296 Tryz.underlying298 rfl rfl Tryz.underlying9 (by kernel_rfl) (by kernel_rfl)
  obtain ⟨a1, s1, hv1, _⟩ := laid_sentinel (g := 8) (ti := 206) h4.tail (by kernel_rfl) (by kernel_rfl) Tryz.underlying206 (fun u h => rowE (nm := "") rfl u (h.trans (by kernel_rfl))) Tryz.underlying296 Tryz.underlying298 rfl rfl Tryz.underlying9 (by kernel_rfl) (by kernel_rfl)
  exact ⟨⟨_, _, hv1⟩, ⟨_, _, hv0⟩⟩
theorem kd_of {W : World} (hL : laidMet Tryz.prog Rows.topWhynotRow.laid W) : KdAt W := by
  have h6 := hL.tail.tail.tail.tail.tail.tail.tail
  have ht := Lib.tabIs_of_head (g := 0) (t := 146) (e := 57) (n := 13) (by kernel_rfl) (by kernel_rfl) (by kernel_rfl) (by kernel_rfl) (by kernel_rfl) (by kernel_rfl) (zs := [1, 2, 3, 4, 0, 5, 6, 7, 9, 11, 11, 12, 13]) (k := .i64) h6
  have hc := fun j (hj : j < 13) => ht.cell (g := 0) (by kernel_rfl) j hj
  exact ⟨cell_lt (a := ⟨0, 0, none⟩) (hc 0 (by omega)), hc⟩
theorem kn_of {W : World} (hL : laidMet Tryz.prog Rows.topWhynotRow.laid W) : KnAt W := by
  have h := strs_of_head (zs := kindsL) (g := 1) (t := 156) (e := 9) (n := 15) (by kernel_rfl) (by kernel_rfl) Tryz.underlying156 Tryz.underlying9 (by kernel_rfl) (by kernel_rfl) hL.tail.tail.tail.tail.tail.tail
  exact ⟨cell_lt (h 0 _ rfl), fun j x hx => h j x hx⟩
theorem own : ownKnob Tryz.prog.godebug = none := by kernel_rfl
theorem laidOut : laidOutB Tryz.prog = true := by kernel_rfl

set_option maxRecDepth 100000 in
theorem contract (H : Type) (enc : TypeId × Value → H) (W : World) (base : Nat) (args : Array Value) (ds gs : List (DataW H)) (before : List MemPlace)
    (hval : ∀ (j : Nat) t v, Tryz.f3.params[j]? = some t → args[j]? = some v → Value.okWide Tryz.prog W .any base t v)
    (hW : DataW.Whole enc Tryz.prog Tryz.f3.params.toList Rows.topWhynotSpec.vars false W args.toList ds gs before)
    (hwt : (DataW.weightsEach Tryz.prog (Tryz.f3.params.toList ++ (OpenSpec.ofChange Rows.topWhynotSpec).bare.plain.varTypes Tryz.prog) (ds ++ gs)).all (· ≤ reachBytes) = true) (hsh : W.ShapedOpen Tryz.prog) (hL : laidMet Tryz.prog Rows.topWhynotRow.laid W) :
    Calls Tryz.prog 3 args W fun e W' => ∃ v, e = .returned v ∧ Rows.topWhynotSpec.post enc Tryz.prog Tryz.f3 false true false false W args v W' := by
  have hW' := hW
  obtain ⟨p, q, hA0, hV, rfl, hfz, hnd⟩ := hW
  have hA : DataW.TrodAll enc Tryz.prog W 0 (fun _ => true) true Tryz.f3.params.toList args.toList ds p := hA0
  rw [Tryz.params3] at hA hval hwt
  obtain ⟨v0, vs0, d0, ds0, p0, q0, hargs, rfl, rfl, h0, r0⟩ := trodAll_cons hA
  obtain ⟨v1, vs1, d1, ds1, p1, q1, rfl, rfl, rfl, h1, r1⟩ := trodAll_cons r0
  obtain ⟨v2, vs2, d2, ds2, p2, q2, rfl, rfl, rfl, h2, r2⟩ := trodAll_cons r1
  obtain ⟨rfl, rfl, rfl⟩ := trodAll_nil r2
  obtain rfl : args = #[v0, v1, v2] := by cases args; simp_all
  obtain ⟨rfl, rfl⟩ := trodVars_none hV
  have k0 := h0
  have lt0 : ∀ x ∈ p0, x.block < W.heap.size := by obtain ⟨m, hm⟩ := k0; exact DataW.trod_lt m _ _ _ hm
  obtain ⟨a0, len0, cap0, rfl⟩ := okWide_slice Tryz.underlying22 (hval 0 22 v0 rfl rfl)
  obtain ⟨l0, hn0, hl0⟩ : ∃ l : List UInt8, l.length = len0 ∧ BysAt W W.heap.size a0 l := by
    obtain ⟨fuel, hf⟩ := h0
    exact bys_of (by simpa [Value.cells] using hf)
  have k1 := h1
  have lt1 : ∀ x ∈ p1, x.block < W.heap.size := by obtain ⟨m, hm⟩ := k1; exact DataW.trod_lt m _ _ _ hm
  obtain ⟨a1, rfl, _, _, w1⟩ := open_int Tryz.underlying5 (hval 1 5 v1 rfl rfl) h1
  obtain ⟨n1, hb1, rfl⟩ : ∃ n : Nat, n < 256 ∧ a1 = (n : Int) := by
    have h := w1
    simp [Lit.wf, IntKind.min, IntKind.max, IntKind.signed, IntKind.bits] at h
    exact ⟨a1.toNat, by omega, by omega⟩
  have k2 := h2
  have lt2 : ∀ x ∈ p2, x.block < W.heap.size := by obtain ⟨m, hm⟩ := k2; exact DataW.trod_lt m _ _ _ hm
  obtain ⟨a2, rfl, _, _, w2⟩ := open_int Tryz.underlying5 (hval 2 5 v2 rfl rfl) h2
  obtain ⟨n2, hb2, rfl⟩ : ∃ n : Nat, n < 256 ∧ a2 = (n : Int) := by
    have h := w2
    simp [Lit.wf, IntKind.min, IntKind.max, IntKind.signed, IntKind.bits] at h
    exact ⟨a2.toNat, by omega, by omega⟩
  clear hA0
  refine (topWhynot_walk a0 len0 cap0 l0 n1 n2 hb1 hb2 W hn0 hl0 ⟨tab_of hL, kd_of hL⟩ ⟨glob_of hsh, kn_of hL, tab_of hL, err_of hL⟩).mono fun e W' ⟨he, bel⟩ => ?_
  subst he
  exact ⟨_, rfl, _, _, _, [], _, [], hW', trodAll_mk1 (shut_bool Tryz.underlying4 _), (trodAll_cons_mk (Below.trod laidOut (by kernel_rfl) (of_decide_eq_true (by kernel_rfl)) k0 bel lt0) (trodAll_cons_mk (Below.trod laidOut (by kernel_rfl) (of_decide_eq_true (by kernel_rfl)) k1 bel lt1) (trodAll_cons_mk (Below.trod laidOut (by kernel_rfl) (of_decide_eq_true (by kernel_rfl)) k2 bel lt2) trodAll_mk0))), rfl, bel.frame _, fun h => by cases h⟩

def lay1 : Obj → Obj
  | .cells _ t frozen => .cells (Go.Pinned.utf8FirstZ.map fun (n : Nat) => Value.int .u8 (n : Int)).toArray t frozen
  | o => o
def lay2 : Obj → Obj
  | .cells _ t frozen => .cells ((([128, 191, 160, 191, 128, 159, 144, 191, 128, 143] : List Nat) ++ List.replicate 22 0).map fun (n : Nat) => Value.int .u8 (n : Int)).toArray t frozen
  | o => o
def lay3 (l : List Int) (k : IntKind) : Obj → Obj
  | .cells _ t frozen => .cells (l.map fun n => Value.int k n).toArray t frozen
  | o => o
def tab32 : List Int := [0, 1, 28, 2, 29, 14, 24, 3, 30, 22, 20, 15, 25, 17, 4, 8, 31, 27, 13, 23, 21, 19, 16, 7, 26, 12, 18, 6, 11, 5, 10, 9]
def tab64 : List Int := [0, 1, 56, 2, 57, 49, 28, 3, 61, 58, 42, 50, 38, 29, 17, 4, 62, 47, 59, 36, 45, 43, 51, 22, 53, 39, 33, 30, 24, 18, 12, 5, 63, 55, 48, 27, 60, 41, 37, 16, 46, 35, 44, 21, 52, 32, 23, 11, 54, 26, 40, 15, 34, 20, 31, 10, 25, 14, 19, 9, 13, 8, 7, 6]
def kdT : List Int := [1, 2, 3, 4, 0, 5, 6, 7, 9, 11, 11, 12, 13]
def layS (l : List ByteArray) : Obj → Obj
  | .cells _ t frozen => .cells (l.map fun n => Value.string n).toArray t frozen
  | o => o
def layE (k : Nat) : Obj → Obj
  | .cells _ t frozen => .cells #[.iface 296 (.pointer (some ⟨k, 0, none⟩))] t frozen
  | o => o
def synB : ByteArray := ⟨#[105, 110, 118, 97, 108, 105, 100, 32, 115, 121, 110, 116, 97, 120]⟩
def rngB : ByteArray := ⟨#[118, 97, 108, 117, 101, 32, 111, 117, 116, 32, 111, 102, 32, 114, 97, 110, 103, 101]⟩
noncomputable def lowE : Nat := (World.holding Tryz.prog default ⟨#[], #[], []⟩).heap.size
noncomputable def laidWorld (os : Os) : World :=
  { World.holding Tryz.prog os ⟨#[.cells #[.string synB] 298, .cells #[.string rngB] 298], #[], []⟩ with heap := (((((((((World.holding Tryz.prog os ⟨#[.cells #[.string synB] 298, .cells #[.string rngB] 298], #[], []⟩).heap.modify 6 lay1).modify 7 lay2).modify 4 (lay3 tab32 .u8)).modify 5 (lay3 tab64 .u8)).modify 3 (lay3 Lib.pow10Tab .u64)).modify 8 (layE lowE)).modify 9 (layE (lowE + 1))).modify 1 (layS kindsL)).modify 0 (lay3 kdT .i64) }
set_option maxRecDepth 100000 in
theorem laid_met (os : Os) : laidMet Tryz.prog Rows.topWhynotRow.laid ((laidWorld os).forCall (fun _ _ => 0) ⟨#[], #[.slice none 0 0, .int .u8 0, .int .u8 0], []⟩).memory :=
  laidMet_of_run' 8 (by kernel_rfl) (by kernel_rfl)
theorem reads (os : Os) {H : Type} (enc : TypeId × Value → H) : ∃ places, DataW.whole enc Tryz.prog ((laidWorld os).forCall (fun _ _ => 0) ⟨#[], #[.slice none 0 0, .int .u8 0, .int .u8 0], []⟩).memory Tryz.f3.params.toList Rows.topWhynotSpec.vars false (#[.slice none 0 0, .int .u8 0, .int .u8 0] : Array Value).toList 8 = some ([.nil, .lit (.int .u8 0), .lit (.int .u8 0)], [], places) :=
  ⟨[], by kernel_rfl⟩

set_option maxRecDepth 100000 in
theorem lifted (os : Os) (started : os.Started) (H : Type) (enc : TypeId × Value → H) (F : Stop.Interp) :
    ReturnsInHanded {} Tryz.checked os 3 .any ((OpenSpec.ofChange Rows.topWhynotSpec).preRow enc Tryz.prog Tryz.f3 Rows.topWhynotRow.domain false Rows.topWhynotRow.laid) (((OpenSpec.ofChange Rows.topWhynotSpec).at F).post enc Tryz.prog Tryz.f3 false true false false) := by
  obtain ⟨places, hx⟩ := reads os enc
  refine returnsInHanded_of_row (C := Tryz.checked) (s := OpenSpec.ofChange Rows.topWhynotSpec) own started (by kernel_rfl) Tryz.func3
    (witness_row_at (enc := enc) (C := Tryz.checked) false (laidWorld os) #[.slice none 0 0, .int .u8 0, .int .u8 0] rfl (by kernel_rfl) (by kernel_rfl) (by kernel_rfl)
      (OpenSpec.preRow_of_cond 8 hx (by kernel_rfl) (fun k hk => by cases hk) (by kernel_rfl) (laid_met os))) ?_
  intro W base args ds gs before hval hW _ _ hwt hL hsh _
  exact contract H enc W base args ds gs before hval hW hwt hsh hL

theorem said : Rows.TopWhynotSaid :=
  OpenClaim.holds_of_cond 3 Tryz.f3 rfl rfl rfl rfl rfl rfl rfl ⟨rfl, rfl, rfl, rfl, rfl⟩ rfl rfl rfl rfl rfl (by kernel_rfl) Tryz.func3 (by kernel_rfl)
    (of_decide_eq_true (by kernel_rfl)) (by unfold Func.isWrapper; first | (rw [if_pos (by decide +kernel)]; kernel_rfl) | (rw [if_neg (by decide +kernel)]; exact ⟨rfl, rfl⟩))
    (fun os started H enc _ F => by rw [OpenClaim.pre_eq_preRow]; exact lifted os started H enc F)

theorem plain (f : FuncId) (fn : Func) (hf : Tryz.pinned.checked.prog.funcNamed Tryz.f3.name = some f) (hfn : Tryz.pinned.checked.prog.funcs[f]? = some fn) :
    true = Tryz.pinned.checked.prog.looks [] ∧ ∀ (j : Nat) t, fn.params[j]? = some t → Tryz.pinned.checked.prog.wantsStandIn t = false := by
  obtain rfl : f = 3 := Option.some.inj ((show Tryz.prog.funcNamed Tryz.f3.name = some 3 by kernel_rfl).symm.trans hf) |>.symm
  obtain rfl : fn = Tryz.f3 := (Option.some.inj (Tryz.func3.symm.trans hfn)).symm
  refine ⟨by kernel_rfl, fun j t ht => ?_⟩
  have h : ((Tryz.f3.params).all fun t => !(Tryz.prog.wantsStandIn t)) = true := by kernel_rfl
  have h2 := Array.all_eq_true_iff_forall_mem.1 h t (Array.mem_of_getElem? ht)
  exact (show Tryz.prog.wantsStandIn t = false by simpa using h2)

end Go.Proofs.YtnpfaajhgghpgaaGreatDoor.topWhynot
namespace Go.Proofs.YtnpfaajhgghpgaaGreatDoor
/-- What would have to change. -/
theorem topWhynot_holds : Rows.TopWhynotCardSaid :=
  Claim7.holds_tied_plain_at .later [] _ _ _ _ topWhynot.said (fun _ h => by cases h) (by kernel_rfl) (fun _ h => by cases h) topWhynot_row_tie rfl ⟨rfl, rfl⟩ (by kernel_rfl) rfl topWhynot.plain (by kernel_rfl)
#print axioms topWhynot_holds
end Go.Proofs.YtnpfaajhgghpgaaGreatDoor
