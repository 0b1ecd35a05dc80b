/- What has to be told, of any catalog, as of any tick, for any list, is just the document's. For every input (the card of the given row; its ties are given). -/
import Derived.Test.YtikbckpphkpaiaaDoorCards
import Derived.Test.YtikbckpphkpaiaaDoorTie
import Derived.Test.YtikbckpphkpaiaaDoorFdRDiff2
import Derived.Test.YtikbckpphkpaiaaDoorOpenF
import Derived.ChangeMaps5
import Derived.WalkKit
import Derived.ProofKit
import Derived.OpenShut
import Derived.ShutString
import Derived.ChangeOld
import Derived.Below
import Derived.Deep.DeepHandedRow
import Derived.Lib.LaidTab
namespace Go.Proofs.YtikbckpphkpaiaaDoor
open Go.Shelf Go.RowKit Go.Maps
set_option linter.unusedVariables false

theorem cat_kind {e : Ev} (h : catB e = true) : e.kind = 11 ∨ e.kind = 12 ∨ e.kind = 13 := by
  unfold catB at h
  rw [Bool.and_eq_true] at h
  exact of_decide_eq_true h.2

set_option maxHeartbeats 8000000 in
set_option maxRecDepth 100000 in
theorem feedDiffs_walk (A : Option Addr) (n c : Nat) (l : List Ev) (t : Int) (src : ByteArray) (num : Int) (A2 : Option Addr) (m c2 : Nat) (want : List Ro) (w : World) (ha : EvArg w A n c l) (hwt : (Lit.int .i64 t).wf = true) (hsz : src.size ≤ 140737488355328) (hwn : (Lit.int .i64 num).wf = true) (hr : RoArg w A2 m c2 want) (hrw : ∀ y ∈ want, RoWf y) (hlc : m ≤ c2) (hg : GlobAt w) :
    Calls Tryd.prog 3 #[.slice A n c, .int .i64 t, .string src, .int .i64 num, .slice A2 m c2] w fun e w' => e = .returned (.bool true) ∧ Below w.heap.size w w' := by
  obtain ⟨hn, hl, hb, hnil, hbd⟩ := ha
  obtain ⟨hm, hr2, hmb, hnil2, hrbd⟩ := hr
  have HN := Lib.hid hn
  have HL := Lib.hid hl
  have HD := Lib.hid hbd
  have HM := Lib.hid hm
  have HR := Lib.hid hr2
  have HRD := Lib.hid hrbd
  have HG := Lib.hid hg
  have HLV := Lib.hid (lives_any w hg)
  clear hn hl hnil hbd hm hr2 hnil2 hrbd hg hrw hwt hwn
  go_enter Tryd.func3, Tryd.ntmps3
  go_wp2_with fail
  refine HLV.out.mono ?_
  rintro e w1 ⟨rfl, hb1⟩
  have HB1 := Lib.hid hb1
  clear hb1 HLV
  by_cases h40 : (40 : Int) < (n : Int)
  · go_wp2_with fail
    go_ret
    exact ⟨rfl, HB1.out⟩
  have d40 : decide ((40 : Int) < (n : Int)) = false := decide_eq_false h40
  have HSM := Lib.hid (some_any w1 w.heap.size A l n c HN.out (HL.out.below HB1.out) HB1.out.size hb HD.out)
  go_wp2_with fail
  refine HSM.out.mono ?_
  rintro e w2 ⟨b, rfl, hbs, hb2⟩
  have HB2 : Hid (Below w.heap.size w w2) := Lib.hid (HB1.out.trans (hb2.mono HB1.out.size))
  clear hb2 HSM
  cases b
  rotate_left
  · clear hbs
    go_wp2_with fail
    go_ret
    exact ⟨rfl, HB2.out⟩
  have HES := Lib.hid (hbs rfl)
  clear hbs
  have HFW := Lib.hid (few_any w2 w.heap.size A2 want m c2 HM.out (HR.out.below HB2.out) HB2.out.size hmb HRD.out)
  go_wp2_with fail
  refine HFW.out.mono ?_
  rintro e w3 ⟨b, rfl, hbf, q, rfl⟩
  have HB3 : Hid (Below w.heap.size w (w2.drewN q)) := Lib.hid (below_drewN HB2.out q)
  obtain ⟨w3, hw3⟩ : ∃ w3, w2.drewN q = w3 := ⟨_, rfl⟩
  rw [hw3] at HB3 ⊢
  clear HFW hw3
  cases b
  · clear hbf
    go_wp2_with fail
    go_ret
    exact ⟨rfl, HB3.out⟩
  obtain ⟨hm31, hfew⟩ := hbf rfl
  have HFEW := Lib.hid hfew
  clear hbf hfew
  by_cases hs1 : (100 : Int) < (src.size : Int)
  · go_wp2_with fail
    go_ret
    exact ⟨rfl, HB3.out⟩
  have ds1 : decide ((100 : Int) < (src.size : Int)) = false := decide_eq_false hs1
  have hs2 : src.size ≤ 100 := by omega
  have HMD := Lib.hid (made_any w3 w.heap.size A l n c HN.out (HL.out.below HB3.out) HB3.out.size (by omega) (fun e he => (HES.out e he).sh3) (HG.out.keep HB3.out (Nat.le_refl _)))
  go_wp2_with fail
  refine HMD.out.mono ?_
  rintro e w4 ⟨hmd, hb4⟩
  have HB4 : Hid (Below w.heap.size w w4) := Lib.hid (HB3.out.trans (hb4.mono HB3.out.size))
  clear hb4 HMD
  rcases hmd with ⟨_, rfl⟩ | ⟨_, cb, F, rfl, hcat, hF⟩
  · go_wp2_with fail
    go_ret
    exact ⟨rfl, HB4.out⟩
  have HC4 := Lib.hid hcat
  clear hcat hF
  have HI1 := Lib.hid (items_any w4 w.heap.size A2 want m c2 HM.out (HR.out.below HB4.out) HB4.out.size (by omega))
  go_wp2_with fail
  refine HI1.out.mono ?_
  rintro e wa ⟨Aa, ca, rfl, hra, _, hba⟩
  have HBa : Hid (Below w.heap.size w wa) := Lib.hid (HB4.out.trans (hba.mono HB4.out.size))
  have HCa : Hid (CatAt wa cb F l) := Lib.hid (HC4.out.below hba)
  have HD1 := Lib.hid (diff_any wa cb F l t src num wa.heap.size Aa (itsOf want) m ca HCa.out (by rw [HN.out]; omega) (by omega) (by rw [its_len]; exact HM.out) hra (Nat.le_refl _) (by omega) (its_sh HFEW.out) (HG.out.keep HBa.out (Nat.le_refl _)))
  clear hra hba HI1 HC4
  go_wp2_with fail
  refine HD1.out.mono ?_
  rintro e wb ⟨Ab, cc, o1, rfl, hd1, ho1, hev1, _, hbb⟩
  rw [its_rows] at hd1
  have HDD1 := Lib.hid hd1
  have HE1 := Lib.hid hev1
  have HBb : Hid (Below w.heap.size w wb) := Lib.hid (HBa.out.trans (hbb.mono HBa.out.size))
  have HRR := Lib.hid (rdiff_any wb w.heap.size A l n c t src num A2 want m c2 HN.out (HL.out.below HBb.out) HBb.out.size (by omega) (fun e he => (HES.out e he).sh3) (fun e he => cat_kind (HCa.out.may e he)) HCa.out.rise (by omega) HM.out (HR.out.below HBb.out) (by omega) hlc HFEW.out)
  clear hd1 hev1 hbb HD1
  go_wp2_with fail
  refine HRR.out.mono ?_
  rintro e wf ⟨Af, cf, o2, rfl, hd2, ho2, hev2, hbf⟩
  obtain rfl := diff_perm (List.Perm.refl _) HDD1.out hd2
  have HBf : Hid (Below w.heap.size w wf) := Lib.hid (HBb.out.trans (hbf.mono HBb.out.size))
  have HSA := Lib.hid (same_any wf wf.heap.size Ab Af o1 o1.length cc cf rfl ((HE1.out.below hbf).more hbf.size) hev2 (Nat.le_refl _) (by omega))
  clear hd2 hev2 hbf HRR HE1 HDD1 ho1 ho2
  go_wp2_with fail
  refine HSA.out.mono ?_
  rintro e wg ⟨rfl, hbg⟩
  have HBg : Hid (Below w.heap.size w wg) := Lib.hid (HBf.out.trans (hbg.mono HBf.out.size))
  clear hbg HSA
  go_wp2_with fail
  go_ret
  exact ⟨rfl, HBg.out⟩

end Go.Proofs.YtikbckpphkpaiaaDoor

namespace Go.Proofs.YtikbckpphkpaiaaDoor.feedDiffs
open Go.ChangeShapes Go.WideShapes Go.ChangeAt Go.RowKit
set_option linter.unusedVariables false

theorem own : ownKnob Tryd.prog.godebug = none := by kernel_rfl
theorem laidOut : laidOutB Tryd.prog = true := by kernel_rfl

set_option maxRecDepth 100000 in
theorem contract (H : Type) (enc : TypeId × Value → H) (W : World) (base : Nat) (args : Array Value) (ds gs : List (DataW H)) (before : List MemPlace)
    (hval : ∀ (j : Nat) t v, Tryd.f3.params[j]? = some t → args[j]? = some v → Value.okWide Tryd.prog W .any base t v)
    (hW : DataW.Whole enc Tryd.prog Tryd.f3.params.toList Rows.feedDiffsSpec.vars false W args.toList ds gs before)
    (hwt : (DataW.weightsEach Tryd.prog (Tryd.f3.params.toList ++ (OpenSpec.ofChange Rows.feedDiffsSpec).bare.plain.varTypes Tryd.prog) (ds ++ gs)).all (· ≤ reachBytes) = true) (hsh : W.ShapedOpen Tryd.prog) :
    Calls Tryd.prog 3 args W fun e W' => ∃ v, e = .returned v ∧ Rows.feedDiffsSpec.post enc Tryd.prog Tryd.f3 false true false false W args v W' := by
  have hW' := hW
  obtain ⟨p, q, hA0, hV, rfl, hfz, hnd⟩ := hW
  have hA : DataW.TrodAll enc Tryd.prog W 0 (fun _ => true) true Tryd.f3.params.toList args.toList ds p := hA0
  rw [Tryd.params3] at hA hval hwt
  obtain ⟨v0, vs0, d0, ds0, p0, q0, hargs, rfl, rfl, h0, r0⟩ := trodAll_cons hA
  obtain ⟨v1, vs1, d1, ds1, p1, q1, rfl, rfl, rfl, h1, r1⟩ := trodAll_cons r0
  obtain ⟨v2, vs2, d2, ds2, p2, q2, rfl, rfl, rfl, h2, r2⟩ := trodAll_cons r1
  obtain ⟨v3, vs3, d3, ds3, p3, q3, rfl, rfl, rfl, h3, r3⟩ := trodAll_cons r2
  obtain ⟨v4, vs4, d4, ds4, p4, q4, rfl, rfl, rfl, h4, r4⟩ := trodAll_cons r3
  obtain ⟨rfl, rfl, rfl⟩ := trodAll_nil r4
  obtain rfl : args = #[v0, v1, v2, v3, v4] := by cases args; simp_all
  obtain ⟨rfl, rfl⟩ := trodVars_none hV
  have k0 := h0
  have lt0 : ∀ x ∈ p0, x.block < W.heap.size := by obtain ⟨m, hm⟩ := k0; exact DataW.trod_lt m _ _ _ hm
  obtain ⟨a0, len0, cap0, rfl⟩ := okWide_slice Tryd.underlying22 (hval 0 22 v0 rfl rfl)
  obtain ⟨l0, hc0⟩ : ∃ l : List Ev, EvArg W a0 len0 cap0 l := by
    obtain ⟨fuel, hf⟩ := h0
    obtain ⟨l, h1, h2, h3, h4, h5, h6⟩ := evs_of (by simpa [Value.cells] using hf) (fun n hn => by
      have := List.all_eq_true.1 hwt n (DataW.weights_mem_each (j := 0) (t := 22) (d := d0) rfl rfl n hn)
      simpa using this)
    exact ⟨l, h1, h3, h2, h4, h5⟩
  have k1 := h1
  have lt1 : ∀ x ∈ p1, x.block < W.heap.size := by obtain ⟨m, hm⟩ := k1; exact DataW.trod_lt m _ _ _ hm
  obtain ⟨a1, rfl, _, _, w1⟩ := open_int Tryd.underlying3 (hval 1 3 v1 rfl rfl) h1
  have k2 := h2
  have lt2 : ∀ x ∈ p2, x.block < W.heap.size := by obtain ⟨m, hm⟩ := k2; exact DataW.trod_lt m _ _ _ hm
  have wt2 := fun n hn => List.all_eq_true.1 hwt n (DataW.weights_mem_each (j := 2) (t := 9) (d := d2) rfl rfl n hn)
  obtain ⟨s2, rfl, hs2, _, _⟩ := Go.ChangeMaps.open_string Tryd.underlying9 (hval 2 9 v2 rfl rfl) h2
  have z2 : s2.size ≤ 140737488355328 := by
    have h3 := wt2 s2.data.toList.length (by rw [hs2]; simp [DataW.weights])
    have e : s2.data.toList.length = s2.size := by simp
    simp only [decide_eq_true_eq] at h3
    rw [e] at h3
    unfold reachBytes at h3
    omega
  have k3 := h3
  have lt3 : ∀ x ∈ p3, x.block < W.heap.size := by obtain ⟨m, hm⟩ := k3; exact DataW.trod_lt m _ _ _ hm
  obtain ⟨a3, rfl, _, _, w3⟩ := open_int Tryd.underlying3 (hval 3 3 v3 rfl rfl) h3
  have k4 := h4
  have lt4 : ∀ x ∈ p4, x.block < W.heap.size := by obtain ⟨m, hm⟩ := k4; exact DataW.trod_lt m _ _ _ hm
  obtain ⟨a4, len4, cap4, rfl⟩ := okWide_slice Tryd.underlying23 (hval 4 23 v4 rfl rfl)
  obtain ⟨l4, hc4, hwf4, hlc4⟩ : ∃ l : List Ro, RoArg W a4 len4 cap4 l ∧ (∀ y ∈ l, RoWf y) ∧ len4 ≤ cap4 := by
    obtain ⟨fuel, hf⟩ := h4
    exact ros_of (by simpa [Value.cells] using hf) (fun n hn => by
      have := List.all_eq_true.1 hwt n (DataW.weights_mem_each (j := 4) (t := 23) (d := d4) rfl rfl n hn)
      simpa using this)
  clear hA0
  refine (feedDiffs_walk a0 len0 cap0 l0 a1 s2 a3 a4 len4 cap4 l4 W hc0 w1 z2 w3 hc4 hwf4 hlc4 (glob_of hsh)).mono fun e W' ⟨he, bel⟩ => ?_
  subst he
  exact ⟨_, rfl, _, _, _, [], _, [], hW', trodAll_mk1 (shut_bool Tryd.underlying4 _), (trodAll_cons_mk (Below.trod laidOut (by kernel_rfl) (of_decide_eq_true (by kernel_rfl)) k0 bel lt0) (trodAll_cons_mk (Below.trod laidOut (by kernel_rfl) (of_decide_eq_true (by kernel_rfl)) k1 bel lt1) (trodAll_cons_mk (Below.trod laidOut (by kernel_rfl) (of_decide_eq_true (by kernel_rfl)) k2 bel lt2) (trodAll_cons_mk (Below.trod laidOut (by kernel_rfl) (of_decide_eq_true (by kernel_rfl)) k3 bel lt3) (trodAll_cons_mk (Below.trod laidOut (by kernel_rfl) (of_decide_eq_true (by kernel_rfl)) k4 bel lt4) trodAll_mk0))))), rfl, bel.frame _, fun h => by cases h⟩

def lay1 : Obj → Obj
  | .cells _ t frozen => .cells (Go.Pinned.utf8FirstZ.map fun (n : Nat) => Value.int .u8 (n : Int)).toArray t frozen
  | o => o
def lay2 : Obj → Obj
  | .cells _ t frozen => .cells ((([128, 191, 160, 191, 128, 159, 144, 191, 128, 143] : List Nat) ++ List.replicate 22 0).map fun (n : Nat) => Value.int .u8 (n : Int)).toArray t frozen
  | o => o
noncomputable def laidWorld (os : Os) : World :=
  { World.holding Tryd.prog os ⟨#[], #[], []⟩ with heap := ((World.holding Tryd.prog os ⟨#[], #[], []⟩).heap.modify 4 lay1).modify 5 lay2 }
set_option maxRecDepth 100000 in
theorem laid_met (os : Os) : laidMet Tryd.prog Rows.feedDiffsRow.laid ((laidWorld os).forCall (fun _ _ => 0) ⟨#[], #[.slice none 0 0, .int .i64 0, .string ⟨#[]⟩, .int .i64 0, .slice none 0 0], []⟩).memory :=
  laidMet_of_run' 8 (by kernel_rfl) (by kernel_rfl)
theorem reads (os : Os) {H : Type} (enc : TypeId × Value → H) : ∃ places, DataW.whole enc Tryd.prog ((laidWorld os).forCall (fun _ _ => 0) ⟨#[], #[.slice none 0 0, .int .i64 0, .string ⟨#[]⟩, .int .i64 0, .slice none 0 0], []⟩).memory Tryd.f3.params.toList Rows.feedDiffsSpec.vars false (#[.slice none 0 0, .int .i64 0, .string ⟨#[]⟩, .int .i64 0, .slice none 0 0] : Array Value).toList 8 = some ([.nil, .lit (.int .i64 0), .lit (.string []), .lit (.int .i64 0), .nil], [], places) :=
  ⟨[], by kernel_rfl⟩

set_option maxRecDepth 100000 in
theorem lifted (os : Os) (started : os.Started) (H : Type) (enc : TypeId × Value → H) (F : Stop.Interp) :
    ReturnsInHanded {} Tryd.checked os 3 .any ((OpenSpec.ofChange Rows.feedDiffsSpec).preRow enc Tryd.prog Tryd.f3 Rows.feedDiffsRow.domain false Rows.feedDiffsRow.laid) (((OpenSpec.ofChange Rows.feedDiffsSpec).at F).post enc Tryd.prog Tryd.f3 false true false false) := by
  obtain ⟨places, hx⟩ := reads os enc
  refine returnsInHanded_of_row (C := Tryd.checked) (s := OpenSpec.ofChange Rows.feedDiffsSpec) own started (by kernel_rfl) Tryd.func3
    (witness_row_at (enc := enc) (C := Tryd.checked) false (laidWorld os) #[.slice none 0 0, .int .i64 0, .string ⟨#[]⟩, .int .i64 0, .slice none 0 0] rfl (by kernel_rfl) (by kernel_rfl) (by kernel_rfl)
      (OpenSpec.preRow_of_cond 8 hx (by kernel_rfl) (fun k hk => by cases hk) (by kernel_rfl) (laid_met os))) ?_
  intro W base args ds gs before hval hW _ _ hwt hL hsh _
  exact contract H enc W base args ds gs before hval hW hwt hsh

theorem said : Rows.FeedDiffsSaid :=
  OpenClaim.holds_of_cond 3 Tryd.f3 rfl rfl rfl rfl rfl rfl rfl ⟨rfl, rfl, rfl, rfl, rfl⟩ rfl rfl rfl rfl rfl (by kernel_rfl) Tryd.func3 (by kernel_rfl)
    (of_decide_eq_true (by kernel_rfl)) (by unfold Func.isWrapper; first | (rw [if_pos (by decide +kernel)]; kernel_rfl) | (rw [if_neg (by decide +kernel)]; exact ⟨rfl, rfl⟩))
    (fun os started H enc _ F => by rw [OpenClaim.pre_eq_preRow]; exact lifted os started H enc F)

theorem plain (f : FuncId) (fn : Func) (hf : Tryd.pinned.checked.prog.funcNamed Tryd.f3.name = some f) (hfn : Tryd.pinned.checked.prog.funcs[f]? = some fn) :
    false = Tryd.pinned.checked.prog.looks [] ∧ ∀ (j : Nat) t, fn.params[j]? = some t → Tryd.pinned.checked.prog.wantsStandIn t = false := by
  obtain rfl : f = 3 := Option.some.inj ((show Tryd.prog.funcNamed Tryd.f3.name = some 3 by kernel_rfl).symm.trans hf) |>.symm
  obtain rfl : fn = Tryd.f3 := (Option.some.inj (Tryd.func3.symm.trans hfn)).symm
  refine ⟨by kernel_rfl, fun j t ht => ?_⟩
  have h : ((Tryd.f3.params).all fun t => !(Tryd.prog.wantsStandIn t)) = true := by kernel_rfl
  have h2 := Array.all_eq_true_iff_forall_mem.1 h t (Array.mem_of_getElem? ht)
  exact (show Tryd.prog.wantsStandIn t = false by simpa using h2)

end Go.Proofs.YtikbckpphkpaiaaDoor.feedDiffs
namespace Go.Proofs.YtikbckpphkpaiaaDoor
/-- What has to be told, of any catalog, as of any tick, for any list, is just the document's. -/
theorem feedDiffs_holds : Rows.FeedDiffsCardSaid :=
  Claim7.holds_tied_plain_at .later [] _ _ _ _ feedDiffs.said (fun _ h => by cases h) (by kernel_rfl) (fun _ h => by cases h) feedDiffs_row_tie rfl ⟨rfl, rfl⟩ (by kernel_rfl) rfl feedDiffs.plain (by kernel_rfl)
#print axioms feedDiffs_holds
end Go.Proofs.YtikbckpphkpaiaaDoor
