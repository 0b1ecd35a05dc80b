/- TopFeed: the list, plain; parses, things. -/
import Derived.Test.YtdcinodbgbkobaaGreatDoorTlB
import Derived.Test.YtdcinodbgbkobaaGreatDoorGh
import Derived.Test.YtdcinodbgbkobaaGreatDoorFdParse
import Derived.Test.YtdcinodbgbkobaaGreatDoorSbO
namespace Go.Proofs.YtdcinodbgbkobaaGreatDoor
open Go.Shelf Go.RowKit Go.Maps
set_option linter.unusedVariables false

/-! ### the list -/
def mkN (r : Nat) : ByteArray := if r % 2 = 0 then ⟨#[109, 48]⟩ else ⟨#[109, 49]⟩
def tgN (r : Nat) : ByteArray := if r / 2 % 3 = 0 then ⟨#[]⟩ else if r / 2 % 3 = 1 then ⟨#[116, 48]⟩ else ⟨#[116, 48, 44, 116, 49]⟩
def wIt (k : Nat) (r : Nat) : It := ⟨tlNm 105 k, mkN r, tgN r, ((r / 6 % 4 : Nat) : Int), (r : Int), 0, false⟩
def wI (rs : List UInt8) : List It := rs.mapIdx fun i r => wIt i r.toNat
def wR (rs : List UInt8) : List Ro := (wI rs).map roOf
theorem wI_len (rs : List UInt8) : (wI rs).length = rs.length := by unfold wI; simp
theorem wR_len (rs : List UInt8) : (wR rs).length = rs.length := by unfold wR; rw [List.length_map, wI_len]
theorem wI_at {rs : List UInt8} {k : Nat} {r : UInt8} (h : rs[k]? = some r) : (wI rs)[k]? = some (wIt k r.toNat) := by unfold wI; rw [List.getElem?_mapIdx, h]; rfl
theorem wI_snoc {rs : List UInt8} {k : Nat} {r : UInt8} (h : rs[k]? = some r) : wI (rs.take (k + 1)) = wI (rs.take k) ++ [wIt k r.toNat] := by
  have hk := (List.getElem?_eq_some_iff.1 h).1
  unfold wI
  rw [take_snoc h, List.mapIdx_append, List.length_take, Nat.min_eq_left (by omega)]
  simp
theorem wI_mem {rs : List UInt8} (hn : rs.length ≤ 6) {x : It} (h : x ∈ wI rs) : ∃ k r : Nat, k < 6 ∧ r < 256 ∧ x = wIt k r := by
  unfold wI at h
  obtain ⟨i, hi, rfl⟩ := List.mem_mapIdx.1 h
  exact ⟨i, _, by omega, UInt8.toNat_lt _, rfl⟩
theorem mkN_ok (r : Nat) : nameB (mkN r) = true ∧ (mkN r).size = 2 := by
  unfold mkN
  split
  · exact ⟨by decide +kernel, rfl⟩
  · exact ⟨by decide +kernel, rfl⟩
theorem tgN_ok (r : Nat) : tagsOkB (tgN r) = true ∧ (tgN r).size ≤ 5 := by
  unfold tgN
  split
  · exact ⟨by decide +kernel, by decide⟩
  split
  · exact ⟨by decide +kernel, by decide⟩
  · exact ⟨by decide +kernel, by decide⟩
theorem wIt_may {k r : Nat} (hk : k < 6) (hr : r < 256) : mayR (roOf (wIt k r)) = true := by
  unfold mayR
  show (nameB (tlNm 105 k) && (nameB (mkN r) && (withB (r : Int) && (withB ((r / 6 % 4 : Nat) : Int) && tagsOkB (tgN r))))) = true
  rw [tlNm_name 105 k (by simp) hk, (mkN_ok r).1, (tgN_ok r).1]
  unfold withB
  rw [decide_eq_true (by omega), decide_eq_true (by omega)]
  rfl
theorem wIt_sz {k r : Nat} (hk : k < 6) : (wIt k r).name.size = 2 ∧ (wIt k r).maker.size = 2 ∧ (wIt k r).tags.size ≤ 5 := ⟨tlNm_size 105 k hk, (mkN_ok r).2, (tgN_ok r).2⟩
theorem wI_few {rs : List UInt8} (hn : rs.length ≤ 6) : ∀ x ∈ wI rs, ItFew x := fun x hx => by
  obtain ⟨k, r, hk, hr, rfl⟩ := wI_mem hn hx
  obtain ⟨h1, h2, h3⟩ := wIt_sz (r := r) hk
  refine ⟨by omega, ?_, ?_⟩
  · show InI (r : Int)
    unfold InI; omega
  · show InI ((r / 6 % 4 : Nat) : Int)
    unfold InI; omega
theorem wR_few {rs : List UInt8} (hn : rs.length ≤ 6) : ∀ y ∈ wR rs, RoFew y := fun y hy => by
  unfold wR at hy
  obtain ⟨x, hx, rfl⟩ := List.mem_map.1 hy
  obtain ⟨k, r, hk, hr, rfl⟩ := wI_mem hn hx
  obtain ⟨h1, h2, h3⟩ := wIt_sz (r := r) hk
  show (wIt k r).name.size + (wIt k r).maker.size + (wIt k r).tags.size ≤ 600
  omega
theorem nm_lt : ∀ a ∈ [0, 1, 2, 3, 4, 5], ∀ b ∈ [0, 1, 2, 3, 4, 5], a < b → (tlNm 105 a).data.toList < (tlNm 105 b).data.toList := by decide +kernel
theorem wR_names (rs : List UInt8) : (wR rs).map (·.name) = (List.range rs.length).map (tlNm 105) := by
  unfold wR wI
  apply List.ext_getElem?
  intro i
  simp only [List.getElem?_map, List.getElem?_mapIdx]
  by_cases h : i < rs.length
  · rw [List.getElem?_eq_getElem h, List.getElem?_range h]; rfl
  · rw [List.getElem?_eq_none (by omega), List.getElem?_eq_none (by simpa using h)]; rfl
theorem wR_rise {rs : List UInt8} (hn : rs.length ≤ 6) : ((wR rs).map (·.name)).Pairwise ltN := by
  rw [wR_names, List.pairwise_map]
  refine List.Pairwise.imp_of_mem ?_ (List.pairwise_lt_range (n := rs.length))
  intro a b ha hb hab
  have ha' := List.mem_range.1 ha
  have hb' := List.mem_range.1 hb
  have ma : ∀ x, x < 6 → x ∈ [0, 1, 2, 3, 4, 5] := fun x hx => by
    have : x = 0 ∨ x = 1 ∨ x = 2 ∨ x = 3 ∨ x = 4 ∨ x = 5 := by omega
    rcases this with rfl | rfl | rfl | rfl | rfl | rfl <;> simp
  exact nm_lt a (ma a (by omega)) b (ma b (by omega)) hab
theorem wR_ok {rs : List UInt8} (hn : rs.length ≤ 6) : okL (wR rs) = true := by
  rw [okL_iff]
  refine ⟨fun y hy => ?_, ?_, by rw [wR_len]; omega⟩
  · unfold wR at hy
    obtain ⟨x, hx, rfl⟩ := List.mem_map.1 hy
    obtain ⟨k, r, hk, hr, rfl⟩ := wI_mem hn hx
    exact wIt_may hk hr
  · rw [List.nodup_iff_pairwise_ne]
    exact (wR_rise hn).imp (fun hab e => by subst e; exact ltN_irr _ hab)
/-- The catalog's names, then, are those of the list, in its order. -/
theorem wR_ks {rs : List UInt8} (hn : rs.length ≤ 6) {es : List Ev} {t n : Int} {src : ByteArray} {ns ks : List ByteArray} (hes : ∀ e ∈ es, e.tick < t) (hns : NamesD es t (wR rs) ns) (hk : IsNames (whB (es ++ numD n (rawD es t src (wR rs) ns)) t (fun _ => true)) ks) : ks = (wR rs).map (·.name) :=
  IsNames.one (g := fun y => (findR (wR rs) y).isSome) hk ⟨wR_rise hn, fun y => by rw [findR_isSome]⟩ (fun y => lead_wh hes (wR_ok hn) hns y)

theorem print_few {l : List Ro} (h : ∀ r ∈ l, RoFew r) (hn : l.length ≤ 31) : (printB l).size ≤ 100000 := by
  unfold printB
  by_cases ho : okL l = true
  · rw [if_pos ho]
    have h1 := text_size (l := l) (n := 647) (fun r hr => by
      have h2 := mayR_num (((okL_iff l).1 ho).1 r hr)
      have h3 := h r hr
      unfold RoFew at h3
      exact line_size ⟨by omega, by omega⟩ ⟨by omega, by omega⟩ (by omega))
    have h4 := Nat.mul_le_mul_right (647 + 1) hn
    omega
  · rw [if_neg ho]
    show 0 ≤ _
    omega
/-! ### parses, things -/
theorem fld_q (q0 q1 q2 q3 q4 q5 q6 q7 : Int) (v : Value) (E : Int) (w : World) : (Instr.field 59 (.agg (tlQ q0 q1 q2 q3 q4 q5 q6 q7 v E)) 2).run Tryz.prog w = .ok (.int .i64 E) w := by kernel_rfl
theorem fld_end (y : Nat → Nat) (v : Value) (E : Int) (w : World) : (Instr.field 59 (.agg (tlArr y v E)) 2).run Tryz.prog w = .ok (.int .i64 E) w := by
  unfold tlArr
  exact fld_q _ _ _ _ _ _ _ _ _ _ _
set_option maxHeartbeats 1000000 in
set_option maxRecDepth 100000 in
theorem parses_any (w : World) (hg : TlG w) : Calls Tryz.prog 5 #[] w fun e w' => e = .returned (.bool true) ∧ Below w.heap.size w w' := by
  have HP := Lib.hid (tparse_any none 0 0 [] w rfl (RowIn.nil _ _ _ _) (by omega) hg)
  clear hg
  go_enter Tryz.func5, Tryz.ntmps5
  go_wp2_with fail
  refine HP.out.mono ?_
  rintro e w1 ⟨A, c, L, E, a, b, rfl, _, _, hE, _, hb1⟩
  obtain rfl := hE (by simp)
  have HB1 := Lib.hid hb1
  clear hb1 hE HP
  have hf := fld_end (byAt []) (.slice A L.length c) 1000 w1
  go_wp2_with fail
  go_ret
  exact ⟨rfl, HB1.out⟩
def thA : Array Value := #[.string ⟨#[105, 48]⟩, .string ⟨#[105, 49]⟩, .string ⟨#[105, 50]⟩, .string ⟨#[105, 51]⟩, .string ⟨#[105, 52]⟩, .string ⟨#[105, 53]⟩]
theorem thA_at {k : Nat} (hk : k < 6) : thA[k]? = some (.string (tlNm 105 k)) := by
  have : k = 0 ∨ k = 1 ∨ k = 2 ∨ k = 3 ∨ k = 4 ∨ k = 5 := by omega
  have e : ∀ k ∈ [0, 1, 2, 3, 4, 5], tlNm 105 k = ⟨#[105, UInt8.ofNat (48 + k)]⟩ := by decide +kernel
  rcases this with rfl | rfl | rfl | rfl | rfl | rfl
  all_goals
    rw [e _ (by simp)]
    rfl
theorem things_any (w : World) : Calls Tryz.prog 9 #[] w fun e w' => e = .returned (.slice (some ⟨w.heap.size, 0, none⟩) 6 6) ∧ w' = w.alloc (.cells thA 9) := by
  go_enter Tryz.func9, Tryz.ntmps9
  go_wp2
  go_ret
  exact ⟨rfl, rfl⟩
end Go.Proofs.YtdcinodbgbkobaaGreatDoor
