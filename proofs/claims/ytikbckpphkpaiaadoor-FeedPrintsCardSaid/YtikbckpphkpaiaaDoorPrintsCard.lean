/- The text of any list is just the document's, or there is none. For every input (the card of the given row; its ties are given). -/
import Derived.Test.YtikbckpphkpaiaaDoorCards
import Derived.Test.YtikbckpphkpaiaaDoorTie
import Derived.Test.YtikbckpphkpaiaaDoorFdPrts
import Derived.Test.YtikbckpphkpaiaaDoorOpenF
import Derived.ChangeMaps5
import Derived.WalkKit
import Derived.ProofKit
import Derived.OpenShut
import Derived.ShutString
import Derived.ChangeOld
import Derived.Below
import Derived.Deep.DeepHandedRow
import Derived.Lib.LaidTab
import Derived.Stop.LaidErr
namespace Go.Proofs.YtikbckpphkpaiaaDoor
open Go.Shelf Go.RowKit Go.Maps
set_option linter.unusedVariables false

theorem its_few {l : List Ro} (h : ∀ r ∈ l, RoFew r) (hw : ∀ y ∈ l, RoWf y) : ∀ x ∈ itsOf l, ItFew x := by
  intro x hx
  unfold itsOf at hx
  obtain ⟨i, hi, rfl⟩ := List.mem_mapIdx.1 hx
  have h1 := h _ (List.getElem_mem hi)
  obtain ⟨h2, h3⟩ := hw _ (List.getElem_mem hi)
  unfold RoFew at h1
  have q : ∀ z : Int, (Lit.int .i64 z).wf = true → InI z := fun z hz => by
    have h := hz
    unfold Lit.wf at h
    rw [Bool.and_eq_true, decide_eq_true_iff, decide_eq_true_iff] at h
    exact h
  exact ⟨by show l[i].name.size + l[i].maker.size + l[i].tags.size ≤ 1000000; omega, q _ h2, q _ h3⟩

set_option maxHeartbeats 4000000 in
set_option maxRecDepth 100000 in
theorem feedPrints_walk (A2 : Option Addr) (m c2 : Nat) (want : List Ro) (w : World) (hr : RoArg w A2 m c2 want) (hrw : ∀ y ∈ want, RoWf y) (hlc : m ≤ c2) (hg : GlobAt w) (ht : TabAt w) :
    Calls Tryd.prog 6 #[.slice A2 m c2] w fun e w' => e = .returned (.bool true) ∧ Below w.heap.size w w' := by
  obtain ⟨hm, hr2, hmb, hnil2, hrbd⟩ := hr
  have HM := Lib.hid hm
  have HR := Lib.hid hr2
  have HRD := Lib.hid hrbd
  have HG := Lib.hid hg
  have HT := Lib.hid ht
  have HRW := Lib.hid hrw
  have HLV := Lib.hid (lives_any w hg)
  clear hm hr2 hnil2 hrbd hg hrw ht
  go_enter Tryd.func6, Tryd.ntmps6
  go_wp2_with fail
  refine HLV.out.mono ?_
  rintro e w1 ⟨rfl, hb1⟩
  have HB1 := Lib.hid hb1
  clear hb1 HLV
  have HFW := Lib.hid (few_any w1 w.heap.size A2 want m c2 HM.out (HR.out.below HB1.out) HB1.out.size hmb HRD.out)
  go_wp2_with fail
  refine HFW.out.mono ?_
  rintro e w3 ⟨b, rfl, hbf, q, rfl⟩
  have HB3 : Hid (Below w.heap.size w (w1.drewN q)) := Lib.hid (below_drewN HB1.out q)
  obtain ⟨w3, hw3⟩ : ∃ w3, w1.drewN q = w3 := ⟨_, rfl⟩
  rw [hw3] at HB3 ⊢
  clear HFW hw3
  cases b
  · clear hbf
    go_wp2_with fail
    go_ret
    exact ⟨rfl, HB3.out⟩
  obtain ⟨hm31, hfew⟩ := hbf rfl
  have HFEW := Lib.hid hfew
  clear hbf hfew
  have HI1 := Lib.hid (items_any w3 w.heap.size A2 want m c2 HM.out (HR.out.below HB3.out) HB3.out.size (by omega))
  go_wp2_with fail
  refine HI1.out.mono ?_
  rintro e wa ⟨Aa, ca, rfl, hra, _, hba⟩
  have HBa : Hid (Below w.heap.size w wa) := Lib.hid (HB3.out.trans (hba.mono HB3.out.size))
  have HP := Lib.hid (fprint_any wa wa.heap.size Aa (itsOf want) m ca (by rw [its_len]; exact HM.out) hra (Nat.le_refl _) (by omega) (its_few HFEW.out HRW.out) (HG.out.keep HBa.out (Nat.le_refl _)) (HT.out.keep HBa.out))
  rw [its_rows] at HP
  clear hra hba HI1
  go_wp2_with fail
  refine HP.out.mono ?_
  rintro e wb ⟨rfl, hbb⟩
  have HBb : Hid (Below w.heap.size w wb) := Lib.hid (HBa.out.trans (hbb.mono HBa.out.size))
  have HQ := Lib.hid (rprint_any wb w.heap.size A2 want m c2 HM.out (HR.out.below HBb.out) HBb.out.size (by omega) hlc HFEW.out)
  clear hbb HP
  go_wp2_with fail
  refine HQ.out.mono ?_
  rintro e wc ⟨rfl, hbc⟩
  have HBc : Hid (Below w.heap.size w wc) := Lib.hid (HBb.out.trans (hbc.mono HBb.out.size))
  clear hbc HQ
  go_wp2_with fail
  go_ret
  exact ⟨rfl, HBc.out⟩

end Go.Proofs.YtikbckpphkpaiaaDoor
namespace Go.Proofs.YtikbckpphkpaiaaDoor.feedPrints
open Go.ChangeShapes Go.WideShapes Go.ChangeAt Go.RowKit

theorem tab_of {W : World} (hL : laidMet Tryd.prog Rows.feedPrintsRow.laid W) : TabAt W := by
  exact Lib.tabIs_of_head (g := 1) (t := 153) (e := 124) (n := 20) (by kernel_rfl) (by kernel_rfl) (by kernel_rfl) (by kernel_rfl) (by kernel_rfl) (by kernel_rfl) (zs := Lib.pow10Tab) (k := .u64) hL.tail.tail
theorem own : ownKnob Tryd.prog.godebug = none := by kernel_rfl
theorem laidOut : laidOutB Tryd.prog = true := by kernel_rfl

set_option maxRecDepth 100000 in
theorem contract (H : Type) (enc : TypeId × Value → H) (W : World) (base : Nat) (args : Array Value) (ds gs : List (DataW H)) (before : List MemPlace)
    (hval : ∀ (j : Nat) t v, Tryd.f6.params[j]? = some t → args[j]? = some v → Value.okWide Tryd.prog W .any base t v)
    (hW : DataW.Whole enc Tryd.prog Tryd.f6.params.toList Rows.feedPrintsSpec.vars false W args.toList ds gs before)
    (hwt : (DataW.weightsEach Tryd.prog (Tryd.f6.params.toList ++ (OpenSpec.ofChange Rows.feedPrintsSpec).bare.plain.varTypes Tryd.prog) (ds ++ gs)).all (· ≤ reachBytes) = true) (hsh : W.ShapedOpen Tryd.prog) (hL : laidMet Tryd.prog Rows.feedPrintsRow.laid W) :
    Calls Tryd.prog 6 args W fun e W' => ∃ v, e = .returned v ∧ Rows.feedPrintsSpec.post enc Tryd.prog Tryd.f6 false true false false W args v W' := by
  have hW' := hW
  obtain ⟨p, q, hA0, hV, rfl, hfz, hnd⟩ := hW
  have hA : DataW.TrodAll enc Tryd.prog W 0 (fun _ => true) true Tryd.f6.params.toList args.toList ds p := hA0
  rw [Tryd.params6] at hA hval hwt
  obtain ⟨v0, vs0, d0, ds0, p0, q0, hargs, rfl, rfl, h0, r0⟩ := trodAll_cons hA
  obtain ⟨rfl, rfl, rfl⟩ := trodAll_nil r0
  obtain rfl : args = #[v0] := by cases args; simp_all
  obtain ⟨rfl, rfl⟩ := trodVars_none hV
  have k0 := h0
  have lt0 : ∀ x ∈ p0, x.block < W.heap.size := by obtain ⟨m, hm⟩ := k0; exact DataW.trod_lt m _ _ _ hm
  obtain ⟨a0, len0, cap0, rfl⟩ := okWide_slice Tryd.underlying23 (hval 0 23 v0 rfl rfl)
  obtain ⟨l0, hc0, hwf0, hlc0⟩ : ∃ l : List Ro, RoArg W a0 len0 cap0 l ∧ (∀ y ∈ l, RoWf y) ∧ len0 ≤ cap0 := by
    obtain ⟨fuel, hf⟩ := h0
    exact ros_of (by simpa [Value.cells] using hf) (fun n hn => by
      have := List.all_eq_true.1 hwt n (DataW.weights_mem_each (j := 0) (t := 23) (d := d0) rfl rfl n hn)
      simpa using this)
  clear hA0
  refine (feedPrints_walk a0 len0 cap0 l0 W hc0 hwf0 hlc0 (glob_of hsh) (tab_of hL)).mono fun e W' ⟨he, bel⟩ => ?_
  subst he
  exact ⟨_, rfl, _, _, _, [], _, [], hW', trodAll_mk1 (shut_bool Tryd.underlying4 _), (trodAll_cons_mk (Below.trod laidOut (by kernel_rfl) (of_decide_eq_true (by kernel_rfl)) k0 bel lt0) trodAll_mk0), rfl, bel.frame _, fun h => by cases h⟩

def lay1 : Obj → Obj
  | .cells _ t frozen => .cells (Go.Pinned.utf8FirstZ.map fun (n : Nat) => Value.int .u8 (n : Int)).toArray t frozen
  | o => o
def lay2 : Obj → Obj
  | .cells _ t frozen => .cells ((([128, 191, 160, 191, 128, 159, 144, 191, 128, 143] : List Nat) ++ List.replicate 22 0).map fun (n : Nat) => Value.int .u8 (n : Int)).toArray t frozen
  | o => o
def lay3 (l : List Int) (k : IntKind) : Obj → Obj
  | .cells _ t frozen => .cells (l.map fun n => Value.int k n).toArray t frozen
  | o => o
def tab32 : List Int := [0, 1, 28, 2, 29, 14, 24, 3, 30, 22, 20, 15, 25, 17, 4, 8, 31, 27, 13, 23, 21, 19, 16, 7, 26, 12, 18, 6, 11, 5, 10, 9]
def tab64 : List Int := [0, 1, 56, 2, 57, 49, 28, 3, 61, 58, 42, 50, 38, 29, 17, 4, 62, 47, 59, 36, 45, 43, 51, 22, 53, 39, 33, 30, 24, 18, 12, 5, 63, 55, 48, 27, 60, 41, 37, 16, 46, 35, 44, 21, 52, 32, 23, 11, 54, 26, 40, 15, 34, 20, 31, 10, 25, 14, 19, 9, 13, 8, 7, 6]
noncomputable def laidWorld (os : Os) : World :=
  { World.holding Tryd.prog os ⟨#[], #[], []⟩ with heap := (((((World.holding Tryd.prog os ⟨#[], #[], []⟩).heap.modify 4 lay1).modify 5 lay2).modify 2 (lay3 tab32 .u8)).modify 3 (lay3 tab64 .u8)).modify 1 (lay3 Lib.pow10Tab .u64) }
set_option maxRecDepth 100000 in
theorem laid_met (os : Os) : laidMet Tryd.prog Rows.feedPrintsRow.laid ((laidWorld os).forCall (fun _ _ => 0) ⟨#[], #[.slice none 0 0], []⟩).memory :=
  laidMet_of_run' 8 (by kernel_rfl) (by kernel_rfl)
theorem reads (os : Os) {H : Type} (enc : TypeId × Value → H) : ∃ places, DataW.whole enc Tryd.prog ((laidWorld os).forCall (fun _ _ => 0) ⟨#[], #[.slice none 0 0], []⟩).memory Tryd.f6.params.toList Rows.feedPrintsSpec.vars false (#[.slice none 0 0] : Array Value).toList 8 = some ([.nil], [], places) :=
  ⟨[], by kernel_rfl⟩

set_option maxRecDepth 100000 in
theorem lifted (os : Os) (started : os.Started) (H : Type) (enc : TypeId × Value → H) (F : Stop.Interp) :
    ReturnsInHanded {} Tryd.checked os 6 .any ((OpenSpec.ofChange Rows.feedPrintsSpec).preRow enc Tryd.prog Tryd.f6 Rows.feedPrintsRow.domain false Rows.feedPrintsRow.laid) (((OpenSpec.ofChange Rows.feedPrintsSpec).at F).post enc Tryd.prog Tryd.f6 false true false false) := by
  obtain ⟨places, hx⟩ := reads os enc
  refine returnsInHanded_of_row (C := Tryd.checked) (s := OpenSpec.ofChange Rows.feedPrintsSpec) own started (by kernel_rfl) Tryd.func6
    (witness_row_at (enc := enc) (C := Tryd.checked) false (laidWorld os) #[.slice none 0 0] rfl (by kernel_rfl) (by kernel_rfl) (by kernel_rfl)
      (OpenSpec.preRow_of_cond 8 hx (by kernel_rfl) (fun k hk => by cases hk) (by kernel_rfl) (laid_met os))) ?_
  intro W base args ds gs before hval hW _ _ hwt hL hsh _
  exact contract H enc W base args ds gs before hval hW hwt hsh hL

theorem said : Rows.FeedPrintsSaid :=
  OpenClaim.holds_of_cond 6 Tryd.f6 rfl rfl rfl rfl rfl rfl rfl ⟨rfl, rfl, rfl, rfl, rfl⟩ rfl rfl rfl rfl rfl (by kernel_rfl) Tryd.func6 (by kernel_rfl)
    (of_decide_eq_true (by kernel_rfl)) (by unfold Func.isWrapper; first | (rw [if_pos (by decide +kernel)]; kernel_rfl) | (rw [if_neg (by decide +kernel)]; exact ⟨rfl, rfl⟩))
    (fun os started H enc _ F => by rw [OpenClaim.pre_eq_preRow]; exact lifted os started H enc F)

theorem plain (f : FuncId) (fn : Func) (hf : Tryd.pinned.checked.prog.funcNamed Tryd.f6.name = some f) (hfn : Tryd.pinned.checked.prog.funcs[f]? = some fn) :
    false = Tryd.pinned.checked.prog.looks [] ∧ ∀ (j : Nat) t, fn.params[j]? = some t → Tryd.pinned.checked.prog.wantsStandIn t = false := by
  obtain rfl : f = 6 := Option.some.inj ((show Tryd.prog.funcNamed Tryd.f6.name = some 6 by kernel_rfl).symm.trans hf) |>.symm
  obtain rfl : fn = Tryd.f6 := (Option.some.inj (Tryd.func6.symm.trans hfn)).symm
  refine ⟨by kernel_rfl, fun j t ht => ?_⟩
  have h : ((Tryd.f6.params).all fun t => !(Tryd.prog.wantsStandIn t)) = true := by kernel_rfl
  have h2 := Array.all_eq_true_iff_forall_mem.1 h t (Array.mem_of_getElem? ht)
  exact (show Tryd.prog.wantsStandIn t = false by simpa using h2)

end Go.Proofs.YtikbckpphkpaiaaDoor.feedPrints
namespace Go.Proofs.YtikbckpphkpaiaaDoor
/-- The text of any list is just the document's, or there is none. -/
theorem feedPrints_holds : Rows.FeedPrintsCardSaid :=
  Claim7.holds_tied_plain_at .later [] _ _ _ _ feedPrints.said (fun _ h => by cases h) (by kernel_rfl) (fun _ h => by cases h) feedPrints_row_tie rfl ⟨rfl, rfl⟩ (by kernel_rfl) rfl feedPrints.plain (by kernel_rfl)
#print axioms feedPrints_holds
end Go.Proofs.YtikbckpphkpaiaaDoor
