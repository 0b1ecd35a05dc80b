/- 'for t, n := range maps.All(m)', a map from pairs of names to counts: the library's iterator, for every loop body. -/
import Derived.Test.YtcgangmmehbdoaaDoorBkW
import Derived.Test.YtcgangmmehbdoaaDoorPrP
import Derived.RangeFuncWrites
import Derived.RangeFuncMany
import Derived.RangeFuncLeaves
import Derived.RangeFuncBox
import Derived.RangeFuncCalls
import Derived.Sort.MapsRangeIn
import Derived.WalkKit
import Derived.OwnWalkIn
import Derived.TacticsInMore
import Derived.RegionIn
import Derived.LoopNIn
import Derived.LoopIn
import Derived.Shelf.Abstract
namespace Go.Proofs.YtcgangmmehbdoaaDoor
open Go.Shelf Go.RowKit Go.Maps
set_option linter.unusedVariables false

theorem str_lits {P : Program} {t : TypeId} (ht : P.underlying t = some .string) {d : Nat} {v : Value} {ls : List Lit} (h : P.keyLits (d + 1) t [v] = some ls) : ∃ s : ByteArray, s.size ≤ maxLen ∧ v = .string s ∧ ls = [.string s.data.toList] := by
  simp only [Program.keyLits, ht] at h
  cases v <;> simp only [reduceCtorEq] at h
  rename_i s
  split at h
  · rename_i hs
    exact ⟨s, hs, rfl, (Option.some.inj h).symm⟩
  · cases h
theorem struct_lits {P : Program} {t : TypeId} {fs : Array Field} {n : Nat} (ht : P.underlying t = some (.struct fs)) (hc : P.cellsOf t = n) {d : Nat} {cs : List Value} {ls : List Lit} (h : P.keyLits (d + 1) t cs = some ls) :
    cs.length = n ∧ (fs.toList.mapM fun f => P.keyLits d f.type ((cs.drop f.offset).take (P.cellsOf f.type))).map List.flatten = some ls := by
  simp only [Program.keyLits, ht, hc] at h
  split at h
  · rename_i hl; exact ⟨hl.1, h⟩
  · cases h
theorem two_some {a b : Option (List Lit)} {l2 : List (List Lit)} (h : (do let x ← a; let y ← b; pure [x, y]) = some l2) : ∃ l0 l1, a = some l0 ∧ b = some l1 ∧ l2 = [l0, l1] := by
  cases a <;> cases b <;> simp at h
  exact ⟨_, _, rfl, rfl, h.symm⟩
theorem struct2_lits {P : Program} {t s : TypeId} {f0 f1 : Field} (ht : P.underlying t = some (.struct #[f0, f1])) (o0 : f0.offset = 0) (o1 : f1.offset = 1) (t0 : f0.type = s) (t1 : f1.type = s) (hs : P.underlying s = some .string) (hc : P.cellsOf t = 2) (hcs : P.cellsOf s = 1)
    {d : Nat} {cs : List Value} {ls : List Lit} (h : P.keyLits (d + 2) t cs = some ls) : ∃ x y : ByteArray, x.size ≤ maxLen ∧ y.size ≤ maxLen ∧ cs = [.string x, .string y] ∧ ls = [.string x.data.toList, .string y.data.toList] := by
  obtain ⟨hlen, hL⟩ := struct_lits ht hc h
  rcases cs with _ | ⟨c0, _ | ⟨c1, _ | ⟨c2, cs⟩⟩⟩
  · cases hlen
  · cases hlen
  · obtain ⟨L2, hL2, rfl⟩ := Option.map_eq_some_iff.1 hL
    obtain ⟨l0, l1, h0, h1, rfl⟩ := two_some (a := P.keyLits (d + 1) s [c0]) (b := P.keyLits (d + 1) s [c1]) (l2 := L2) (by
      rw [← hL2]
      simp [List.mapM_cons, o0, o1, t0, t1, hcs]
      cases P.keyLits (d + 1) s [c0] <;> cases P.keyLits (d + 1) s [c1] <;> rfl)
    obtain ⟨x, hx, rfl, rfl⟩ := str_lits hs h0
    obtain ⟨y, hy, rfl, rfl⟩ := str_lits hs h1
    exact ⟨x, y, hx, hy, rfl, rfl⟩
  · simp at hlen
theorem two_inv {key : Value} {kl : Lit} (h : keyOf Tryd.prog 69 key = some kl) : ∃ x y : ByteArray, x.size ≤ maxLen ∧ y.size ≤ maxLen ∧ key = .agg #[.string x, .string y] ∧ kl = lit2 x y := by
  obtain ⟨xs, L, rfl, hL, rfl⟩ := keyOf_top (by rw [Tryd.underlying69]) h
  obtain ⟨d, hd⟩ : ∃ d, Tryd.prog.types.size + 1 = d + 2 := ⟨Tryd.prog.types.size - 1, by
    have : 1 ≤ Tryd.prog.types.size := of_decide_eq_true (by kernel_rfl)
    omega⟩
  rw [hd] at hL
  obtain ⟨x, y, hx, hy, hcs, rfl⟩ := struct2_lits Tryd.underlying69 rfl rfl rfl rfl Tryd.underlying9 (by kernel_rfl) (by kernel_rfl) hL
  obtain rfl : xs = #[.string x, .string y] := Array.toList_inj.1 hcs
  exact ⟨x, y, hx, hy, rfl, rfl⟩

section
variable {F : Fence} {n : Nat} {P : Program} (w : World) {ops : Array Oper} {rest : List Oper} {o : Oper} {a : Act} {Q : Exit → Act → World → Prop}
/-- 'range m' within a fence. -/
theorem wpListIn_rangeM (hg : o.guard = none) (m : Operand) (t : TypeId) (hop : o.op = Op.range t m) (k e : TypeId) (K : Keyed P k) (ht : P.underlying t = some (.map k e)) (ok : Value → Bool) (b nn : Nat) (M : Lit → Option Value)
    (hm : a.eval m = .map (some b)) (hM : MapIs P k ok w b nn M)
    (hK : ∀ w' cnt, MapGoes P k ok w' b w.heap.size nn M (fun kl => (M kl).isSome) cnt → w.grownBy w' none → w'.heap.size = w.heap.size + 1 → cnt ≤ nn → wpListIn F n P ops Q rest (a.put o.dst (.pointer (some ⟨w.heap.size, 0, none⟩))) w') :
    wpListIn F n P ops Q (o :: rest) a w := by
  refine wpListIn_plain hg fun K' hK' => ?_
  obtain ⟨w', cnt, hrun, r1, r2, r3, r4⟩ := hM.range K ht
  unfold Oper.wpIn
  refine ⟨by simp [Oper.about, hop], ?_⟩
  rw [Oper.semAt_plain F _ _ (by rw [hop]; intro c hc'; cases hc')]
  simp [execOp, hop, hm, hrun, Result.andThen]
  exact hK' _ _ (hK w' cnt r1 r2 r3 r4)
/-- The step within a fence. -/
theorem wpListIn_nextM (hg : o.guard = none) (it : Operand) (hop : o.op = Op.next it false) (k : TypeId) (K : Keyed P k) (ok : Value → Bool) (b r nn : Nat) (M : Lit → Option Value) (left : Lit → Bool) (cnt : Nat)
    (hit : a.eval it = .pointer (some ⟨r, 0, none⟩)) (h : MapGoes P k ok w b r nn M left cnt)
    (hDone : cnt = 0 → (∀ kl, left kl = false) → wpListIn F n P ops Q rest (a.put o.dst (.tuple #[.bool false])) w)
    (hMore : ∀ (key v : Value) (kl : Lit) (w' : World) (cnt' : Nat), keyOf P k key = some kl → left kl = true → ok v = true → M kl = some v → MapGoes P k ok w' b r nn M (fun z => left z && !z.sameKey kl) cnt' → cnt' < cnt →
      w.grownBy w' (some r) → w'.heap.size = w.heap.size → (Instr.entry (.pointer (some ⟨r, 0, none⟩))).run P w' = .ok (.tuple #[key, v]) w' → wpListIn F n P ops Q rest (a.put o.dst (.tuple #[.bool true, key, v])) w') :
    wpListIn F n P ops Q (o :: rest) a w := by
  refine wpListIn_plain hg fun K' hK' => ?_
  unfold Oper.wpIn
  refine ⟨by simp [Oper.about, hop], ?_⟩
  rw [Oper.semAt_plain F _ _ (by rw [hop]; intro c hc'; cases hc')]
  rcases h.next K o.type with ⟨h0, hl, hrun⟩ | ⟨key, v, kl, w', cnt', hkey, hlk, hv, hat, hrun, hrg, hlt, hgr, hsz, hen⟩
  · simp [execOp, hop, hit, hrun, Result.andThen]
    exact hK' _ _ (hDone h0 hl)
  · simp [execOp, hop, hit, hrun, Result.andThen]
    exact hK' _ _ (hMore key v kl w' cnt' hkey hlk hv hat hrg hlt hgr hsz hen)
end
theorem MapGoes.of_walks {P : Program} {k : TypeId} {ok : Value → Bool} {w w' : World} {b r n : Nat} {M : Lit → Option Value} {left : Lit → Bool} {cnt : Nat} (h : MapGoes P k ok w b r n M left cnt) (hk : KeepsWalks w w') : MapGoes P k ok w' b r n M left cnt := by
  obtain ⟨D, hD, hM⟩ := h
  exact ⟨D, hD.of_walks hk, hM⟩
theorem MapGoes.walk {P : Program} {k : TypeId} {ok : Value → Bool} {w : World} {b r n : Nat} {M : Lit → Option Value} {left : Lit → Bool} {cnt : Nat} (h : MapGoes P k ok w b r n M left cnt) : ∃ o : Obj, w.heap[r]? = some o ∧ o.isWalk = true := by
  obtain ⟨D, hD, hM⟩ := h
  exact hD.iter_walk

def encsP (p : Pr) : Array Value := #[.agg #[.string p.1.1, .string p.1.2], .int .i64 p.2]
def PartB (M : Lit → Option Value) (ps : List Pr) : Prop := (ps.map (·.1)).Nodup ∧ ∀ p ∈ ps, p.1.1.size ≤ maxLen ∧ p.1.2.size ≤ maxLen ∧ M (lit2 p.1.1 p.1.2) = some (.int .i64 p.2)
def AllB (M : Lit → Option Value) (ps : List Pr) : Prop := PartB M ps ∧ ∀ x y : ByteArray, x.size ≤ maxLen → y.size ≤ maxLen → (M (lit2 x y)).isSome = true → (x, y) ∈ ps.map (·.1)
def LeftB (M : Lit → Option Value) (left : Lit → Bool) (ps : List Pr) : Prop := ∀ x y : ByteArray, x.size ≤ maxLen → y.size ≤ maxLen → (left (lit2 x y) = true ↔ (M (lit2 x y)).isSome = true ∧ (x, y) ∉ ps.map (·.1))
theorem PartB.step {M : Lit → Option Value} {left : Lit → Bool} {ps : List Pr} {x y : ByteArray} {z : Int} (h : PartB M ps) (hl : LeftB M left ps) (hx : x.size ≤ maxLen) (hy : y.size ≤ maxLen) (hk : left (lit2 x y) = true) (hM : M (lit2 x y) = some (.int .i64 z)) :
    PartB M (ps ++ [((x, y), z)]) ∧ LeftB M (fun q => left q && !q.sameKey (lit2 x y)) (ps ++ [((x, y), z)]) := by
  have hnm : (x, y) ∉ ps.map (·.1) := by
    exact ((hl x y hx hy).1 hk).2
  refine ⟨⟨?_, fun p hp => ?_⟩, fun u v hu hv => ?_⟩
  · rw [List.map_append, List.nodup_append]
    refine ⟨h.1, by simp, fun a ha b hb => ?_⟩
    simp at hb
    rintro rfl
    rw [hb] at ha
    exact hnm ha
  · rcases List.mem_append.1 hp with hp | hp
    · exact h.2 p hp
    · simp at hp; subst hp; exact ⟨hx, hy, hM⟩
  · show (left (lit2 u v) && !(lit2 u v).sameKey (lit2 x y)) = true ↔ _
    rw [Bool.and_eq_true, hl u v hu hv, lit2_same hu hv hx hy, List.map_append, Bool.not_eq_true', decide_eq_false_iff_not, List.mem_append, and_assoc]
    refine and_congr_right fun _ => ?_
    have e2 : (u, v) ∈ List.map (fun x : Pr => x.1) [((x, y), z)] ↔ u = x ∧ v = y := by simp
    rw [e2, not_or]

set_option maxRecDepth 100000 in
set_option maxHeartbeats 1000000 in
/-- 'func(yield func(K, V) bool) { for k, v := range m { if !yield(k, v) { return } } }'. -/
theorem allB1_in (F : Fence) (n : Nat) (hf : F.fn 50) (hro : F.round = none) (hn : 1 ≤ n) (l Bm b nn : Nat) (M : Lit → Option Value) (J Jx : List Pr → World → Prop)
    (hY : ∀ pre x W, J pre W → pre.length < nn → YieldAt F (n - 1) Tryd.prog l (encsP x) W fun e W' =>
      (e = .returned (.bool true) ∧ J (pre ++ [x]) W' ∧ KeepsWalks W W') ∨ (e = .returned (.bool false) ∧ Jx (pre ++ [x]) W'))
    (W : World) (hJ : AbidesFrom W.heap.size J) (hm : W.cell? ⟨Bm, 0, none⟩ = some (.map (some b))) (hown : MapIs Tryd.prog 69 okInt W b nn M) (h0 : J [] W) :
    CallsIn F n Tryd.prog 50 #[.func (.yield l) #[] #[], .pointer (some ⟨Bm, 0, none⟩)] W fun e W' => (∃ v, e = .returned v) ∧
      ((∃ ps, AllB M ps ∧ J ps W') ∨ (∃ pre, PartB M pre ∧ Jx pre W')) := by
  refine callsIn_of_wp Tryd.func50 rfl hf ?_ hro
  simp only [Tryd.ntmps50, List.size_toArray, List.length_cons, List.length_nil, Nat.reduceAdd, Nat.reduceSub, Array.replicate_succ, Array.replicate_zero, List.push_toArray, List.append_toArray, List.nil_append, List.cons_append]
  gi_wp2_with (first
    | (gi_at_range; refine wpListIn_rangeM _ rfl _ 51 rfl 69 3 twoKeyed Tryd.underlying51 okInt b nn M rfl hown ?_; intro w0 cnt0 hrg0 hg0 hs0 hc0)
    | gi_in)
  go_frame
  gi_loopw [3, 4] (fun _ _ wr => ∃ (left : Lit → Bool) (cnt : Nat) (ps : List Pr), MapGoes Tryd.prog 69 okInt wr b W.heap.size nn M left cnt ∧ ps.length + cnt ≤ nn ∧ PartB M ps ∧ LeftB M left ps ∧ J ps wr)
    (fun _ _ wr => wr.rangeLeft b W.heap.size)
  case atStart =>
    exact ⟨_, _, [], hrg0, by simpa using hc0, ⟨List.nodup_nil, fun p hp => by cases hp⟩, fun x y _ _ => (by simp), hJ [] W w0 none h0 hg0 (fun r e => by cases e)⟩
  case round =>
    obtain ⟨left, cnt, ps, hrg, hcs, hP, hL, hJs⟩ := hrel
    gi_wp2_with (first
      | (gi_at_next; refine wpListIn_nextM _ rfl _ rfl 69 twoKeyed okInt b W.heap.size nn M left cnt rfl hrg ?_ ?_)
      | gi_in)
    · intro hc0 hl0
      gi_wp2
      go_end0
      exact ⟨⟨_, rfl⟩, .inl ⟨ps, ⟨hP, fun x y hx hy hm => by
        refine Classical.byContradiction fun hn => ?_
        have := (hL x y hx hy).2 ⟨hm, hn⟩
        rw [hl0] at this
        cases this⟩, hJs⟩⟩
    · intro key v kl w2 cnt2 hkey hlk hv hat hrg2 hlt hg2 hs2 hen
      obtain ⟨x, y, hx, hy, rfl, rfl⟩ := two_inv hkey
      obtain ⟨z, rfl⟩ := mk_int hv
      have hJ2 : J ps w2 := hJ ps wr w2 (some W.heap.size) hJs hg2 (fun r e => by cases e; exact ⟨Nat.le_refl _, hrg.walk⟩)
      have hJ3 : J ps (w2.alloc (.cells #[.string x, .string y] 69)) := hJ ps w2 _ none hJ2 (World.grownBy_alloc w2 _ none) (fun r e => by cases e)
      have hrg4 := hrg2.alloc (.cells #[.string x, .string y] 69)
      obtain ⟨fn, tmps, assign, body, hy2, hR⟩ := hY ps ((x, y), z) _ hJ3 (by omega)
      obtain ⟨hP2, hL2⟩ := hP.step hL hx hy hlk hat
      dsimp only [encsP] at hy2
      clear hs2
      gi_wp2
      refine hR.mono ?_
      rintro e W3 (⟨rfl, hJ5, hk3⟩ | ⟨rfl, hJx3⟩)
      · gi_wp2
        have hrg3 := hrg4.of_walks hk3
        go_roundw
        case rel => exact ⟨_, cnt2, ps ++ [((x, y), z)], hrg3, by simp; omega, hP2, hL2, hJ5⟩
        case measure => rw [hrg3.left_eq, hrg.left_eq]; exact hlt
      · gi_wp2
        refine bodyPost_ret (results_none rfl _ _ _) rfl ?_
        exact ⟨⟨_, rfl⟩, .inr ⟨ps ++ [((x, y), z)], hP2, hJx3⟩⟩

set_option maxHeartbeats 1000000 in
/-- maps.All(m): the map is boxed; the function value captures the box. -/
theorem allB_in (F : Fence) (n : Nat) (hf : F.fn 33) (hro : F.round = none) (mb : Option Nat) (w : World) :
    CallsIn F n Tryd.prog 33 #[.map mb] w fun e w' => e = .returned (.func (.func 50) #[] #[.pointer (some ⟨w.heap.size, 0, none⟩)]) ∧ w' = w.alloc (.cells #[.map mb] 51) := by
  refine callsIn_of_wp Tryd.func33 rfl hf ?_ hro
  simp only [Tryd.ntmps33, List.size_toArray, List.length_cons, List.length_nil, Nat.reduceAdd, Nat.reduceSub, Array.replicate_succ, Array.replicate_zero, List.push_toArray, List.append_toArray, List.nil_append, List.cons_append]
  gi_wp2
  go_ret
  exact ⟨rfl, rfl⟩

theorem allB_stops (F : Fence) (n : Nat) (hf : F.fn 50) (hro : F.round = none) (hn : 1 ≤ n) (Bm b nn : Nat) (M : Lit → Option Value) (w : World) (hBm : Bm < w.heap.size)
    (hm : w.cell? ⟨Bm, 0, none⟩ = some (.map (some b))) (hown : MapIs Tryd.prog 69 okInt w b nn M) :
    SeqStopsK F n Tryd.prog 50 #[.pointer (some ⟨Bm, 0, none⟩)] encsP KeepsWalks (AllB M) (PartB M) nn w := fun l J Jx W hW hJ _ hY h0 =>
  allB1_in F n hf hro hn l Bm b nn M J Jx hY W hJ ((hW.cell (p := ⟨Bm, 0, none⟩) hBm).trans hm) (by
    obtain ⟨D, ⟨es, clock, hb, r⟩, hM⟩ := hown
    exact ⟨D, ⟨es, clock, (hW.block b (Array.getElem?_eq_some_iff.1 hb).1).trans hb, r⟩, hM⟩) h0

end Go.Proofs.YtcgangmmehbdoaaDoor
