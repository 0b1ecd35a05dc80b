/- begun, parses: what every top law begins with. -/
import Derived.Test.YtnpfaajhgghpgaaGreatDoorTlQ
namespace Go.Proofs.YtnpfaajhgghpgaaGreatDoor
open Go.Shelf Go.RowKit Go.Maps
open Ru (TabAt Zbx)
set_option linter.unusedVariables false

theorem run_loadVar_off {P : Program} (w : World) (g off : Nat) (ty : TypeId) (cs : Array Value) (d : TypeDesc) (hg : ∀ (j : Nat) v, cs[j]? = some v → w.cell? ⟨g, off + j, none⟩ = some v)
    (hu : P.underlying ty = some d) (hd : (match d with | .struct _ | .array _ _ => true | _ => false) = true) (hi : (P.info? ty).map (·.size) = some cs.size) :
    (loadVar ty ⟨g, off, none⟩).run P w = .ok (.agg cs) w := by
  have hl : (loadCells ⟨g, off, none⟩ cs.toList.length).run P w = .ok cs.toList.toArray w :=
    run_loadCells_list (P := P) w ⟨g, off, none⟩ cs.toList (fun j v hv => by
      rw [at_add]
      exact hg j v (by simpa using hv))
  cases hq : P.info? ty with
  | none => simp [hq] at hi
  | some i =>
    have hs : i.size = cs.size := by simpa [hq] using hi
    have hagg : (isAgg ty).run P w = .ok true w := by
      unfold isAgg
      rw [Sem.run_bind, run_underlying hu w]
      cases d <;> simp_all
    simp only [Array.length_toList, Array.toArray_toList] at hl
    simp [loadVar, Sem.run_bind, hagg, sizeOf, typeInfo, hq, hs, hl]
theorem exec_load {P : Program} {ev : Operand → Value} {o : Oper} {W : World} {ty : TypeId} {x : Operand} {p : Addr} {v : Value} (ho : o.op = .load ty x) (hx : ev x = .pointer (some p)) (hl : (loadVar ty p).run P W = .ok v W) : (execOp ev o).run P W = .ok (.value v) W := by
  unfold execOp
  simp only [ho, hx, Instr.loadAt, Instr.sureAddr, Sem.run_bind, Sem.run_pure, Result.andThen_ok, hl]
theorem results_4 {fn : Func} {a t u s : Tmp} {ty : TypeId} {v : Value} {rb : Nat} {tmps : Array Value} {w : World} (h : fn.results = #[.tmp a, .cell t ty, .tmp u, .tmp s]) (hp : tmps.getD t undef = .pointer (some ⟨rb, 0, none⟩)) (hl : (loadVar ty ⟨rb, 0, none⟩).run Tryz.prog w = .ok v w) :
    (results fn tmps).run Tryz.prog w = .ok (.tuple #[tmps.getD a undef, v, tmps.getD u undef, tmps.getD s undef]) w := by
  have hp' : tmps[t]?.getD undef = .pointer (some ⟨rb, 0, none⟩) := by simpa using hp
  simp [results, h, hp', asAddr, hl]
theorem stp_at {w : World} {B : Nat} {A : Option Addr} {L : List Stp} (h : RowIn w B 13 A L.length (L.flatMap stpC)) {k : Nat} {s : Stp} (hs : L[k]? = some s) : ∃ g o, A = some ⟨g, o, none⟩ ∧ g < B ∧ ∀ (j : Nat) v, (stpA s)[j]? = some v → w.cell? ⟨g, o + k * 13 + j, none⟩ = some v := by
  obtain ⟨g, o, hA, hb, hc⟩ := RowIn.at h (by have := (List.getElem?_eq_some_iff.1 hs).1; omega)
  refine ⟨g, o, hA, hb, fun j v hv => ?_⟩
  have hj : j < 13 := (Array.getElem?_eq_some_iff.1 hv).1
  have := hc (k * 13 + j) v ((Zbi stpC 13 stpC_len L k j s hs hj).trans (by rw [← hv]; simp [stpC, stpA, evC]))
  rw [← Nat.add_assoc] at this
  exact this
theorem put_stp (s : Stp) : putA #[.int .i64 0, .string ⟨#[]⟩, .int .i64 0, .int .i64 0, .int .i64 0, .string ⟨#[]⟩, .string ⟨#[]⟩, .int .i64 0, .string ⟨#[]⟩, .string ⟨#[]⟩, .int .i64 0, .int .i64 0, .int .i64 0] 0 (stpA s).toList = stpA s := by
  simp only [stpA, putA, List.setIfInBounds_toArray, List.set_cons_zero, List.set_cons_succ]
theorem ts_eq (y : Nat → Nat) (v : Value) (E : Int) : (tlArr y v E).toList.take 22 = (tsArr y 6).toList := rfl
theorem tells_take {L : List Stp} {k : Nat} {s : Stp} (h : L[k]? = some s) : tlTells (L.take (k + 1)) = tlTells (L.take k) ++ (if s.what = 0 then [s.ev] else []) := by rw [Zbd h, tells_snoc]
theorem tells_len (L : List Stp) : (tlTells L).length ≤ L.length := by
  unfold tlTells
  rw [List.length_map]
  exact List.length_filter_le _ _

/-- What the laws begin with: the events of a tale, its settings, its end. -/
def BegE (l : List UInt8) (w : World) (e : Ending) (w' : World) : Prop := ∃ (A : Option Addr) (m c : Nat) (sv : Array Value) (E : Int) (ok : Bool), e = .returned (.tuple #[.slice A m c, .agg sv, .int .i64 E, .bool ok]) ∧ sv.size = 22 ∧ sv.all (·.oneCell') = true ∧ ok = decide (l.length ≤ 300) ∧ Below w.heap.size w w' ∧
  (ok = true → ∃ L a b, TlI a b E L ∧ L.length ≤ 60 ∧ (tlTells L).length = m ∧ sv = tsArr (byAt l) 6 ∧ EvsAt w' w'.heap.size A (tlTells L) ∧ (A = none → c = 0))

set_option maxHeartbeats 8000000 in
set_option maxRecDepth 100000 in
theorem begun_any (A : Option Addr) (n c : Nat) (l : List UInt8) (w : World) (hn : l.length = n) (hl : BysAt w w.heap.size A l) (hg : TlG w) :
    Calls Tryz.prog 4 #[.slice A n c] w (BegE l w) := by
  obtain ⟨iE, hi0, hz0, hz1, hz2⟩ := info_parts Zdd
  obtain ⟨rb, hrb⟩ : ∃ b, w.heap.size = b := ⟨_, rfl⟩
  obtain ⟨w1, hw1⟩ : ∃ w1, w.alloc (.cells #[.int .i64 0, .int .i64 0, .int .i64 0, .int .i64 0, .int .i64 0, .int .i64 0, .int .i64 0, .int .i64 0, .int .i64 0, .int .i64 0, .int .i64 0, .int .i64 0, .int .i64 0, .int .i64 0, .int .i64 0, .int .i64 0, .int .i64 0, .int .i64 0, .int .i64 0, .string ⟨#[]⟩, .string ⟨#[]⟩, .int .u64 0] 32) = w1 := ⟨_, rfl⟩
  have HR1 : Hid (Blk w1 rb 32 #[.int .i64 0, .int .i64 0, .int .i64 0, .int .i64 0, .int .i64 0, .int .i64 0, .int .i64 0, .int .i64 0, .int .i64 0, .int .i64 0, .int .i64 0, .int .i64 0, .int .i64 0, .int .i64 0, .int .i64 0, .int .i64 0, .int .i64 0, .int .i64 0, .int .i64 0, .string ⟨#[]⟩, .string ⟨#[]⟩, .int .u64 0]) := Lib.hid (by rw [← hw1, ← hrb]; exact Blk.new _ _ _)
  have HB1 : Hid (Below w.heap.size w w1) := Lib.hid (by rw [← hw1]; exact (Below.refl _ _).alloc (Nat.le_refl _) _)
  have HRB : Hid (w.heap.size ≤ rb) := Lib.hid (by omega)
  have HN := Lib.hid hn
  by_cases h300 : 300 < n
  · have q : (300 : Int) < (n : Int) := by omega
    have hd : decide (n ≤ 300) = false := decide_eq_false (by omega)
    have HD := Lib.hid hd
    clear hl hg hn hd
    go_enter Tryz.func4, Tryz.ntmps4
    go_upto_region 1 with fail
    (try simp only [Exit.inBlock, Exit.then])
    try rw [hw1]
    try rw [hrb]
    clear hw1 hrb
    go_wp2_with (first
      | (refine Zad _ rfl 32 (.tmp 3) (.tmp 13) rfl 0 #[.int .i64 0, .int .i64 0, .int .i64 0, .int .i64 0, .int .i64 0, .int .i64 0, .int .i64 0, .int .i64 0, .int .i64 0, .int .i64 0, .int .i64 0, .int .i64 0, .int .i64 0, .int .i64 0, .int .i64 0, .int .i64 0, .int .i64 0, .int .i64 0, .int .i64 0, .string ⟨#[]⟩, .string ⟨#[]⟩, .int .u64 0] rfl rfl HR1.out (by show 0 + 22 ≤ 22; omega) tsg_info (by simp [Value.oneCell']) ?_; intro w9 hb9 hk9 hs9)
      | fail)
    simp only [putA, List.setIfInBounds_toArray, List.set_cons_zero, List.set_cons_succ] at hb9
    refine bodyPost_ret (results_4 (rb := rb) rfl rfl (run_loadVar_row w9 rb _ _ #[.int .i64 0, .int .i64 0, .int .i64 0, .int .i64 0, .int .i64 0, .int .i64 0, .int .i64 0, .int .i64 0, .int .i64 0, .int .i64 0, .int .i64 0, .int .i64 0, .int .i64 0, .int .i64 0, .int .i64 0, .int .i64 0, .int .i64 0, .int .i64 0, .int .i64 0, .string ⟨#[]⟩, .string ⟨#[]⟩, .int .u64 0] (0, 0) _ hb9 Tryz.underlying32 rfl tsg_info)) rfl ?_
    refine ⟨none, 0, 0, #[.int .i64 0, .int .i64 0, .int .i64 0, .int .i64 0, .int .i64 0, .int .i64 0, .int .i64 0, .int .i64 0, .int .i64 0, .int .i64 0, .int .i64 0, .int .i64 0, .int .i64 0, .int .i64 0, .int .i64 0, .int .i64 0, .int .i64 0, .int .i64 0, .int .i64 0, .string ⟨#[]⟩, .string ⟨#[]⟩, .int .u64 0], 0, false, rfl, rfl, by simp [Value.oneCell'], by rw [HN.out]; exact HD.out.symm, HB1.out.trans (hk9.toBelow (fun i hi => by rw [hi]; exact HRB.out) HB1.out.size), fun h => by cases h⟩
  · have q : ¬ (300 : Int) < (n : Int) := by omega
    have HPA := Lib.hid (tparse_any A n c l w1 hn ((hl.below HB1.out).more HB1.out.size) (by omega) (hg.keep HB1.out))
    have hd : decide (n ≤ 300) = true := decide_eq_true (by omega)
    have HD := Lib.hid hd
    have HN3 : Hid (n ≤ 300) := Lib.hid (by omega)
    clear hl hg hn hd
    go_enter Tryz.func4, Tryz.ntmps4
    go_upto_region 1 with fail
    (try simp only [Exit.inBlock, Exit.then])
    try rw [hw1]
    try rw [hrb]
    clear hw1 hrb
    go_wp2_with fail
    refine HPA.out.mono ?_
    rintro e w3 ⟨A5, c5, L, E, a, b, rfl, hti, hLl, _, hrow, hb3⟩
    obtain ⟨m, hm⟩ : ∃ m, L.length = m := ⟨_, rfl⟩
    rw [hm]
    have HM := Lib.hid hm
    have HB3 : Hid (Below w.heap.size w w3) := Lib.hid (HB1.out.trans (hb3.mono HB1.out.size))
    have HR3 : Hid (Blk w3 rb 32 #[.int .i64 0, .int .i64 0, .int .i64 0, .int .i64 0, .int .i64 0, .int .i64 0, .int .i64 0, .int .i64 0, .int .i64 0, .int .i64 0, .int .i64 0, .int .i64 0, .int .i64 0, .int .i64 0, .int .i64 0, .int .i64 0, .int .i64 0, .int .i64 0, .int .i64 0, .string ⟨#[]⟩, .string ⟨#[]⟩, .int .u64 0]) := Lib.hid ((hb3.block _ HR1.out.lt).trans HR1.out)
    have HRW := Lib.hid hrow
    have HTI := Lib.hid hti
    have hm300 : m ≤ 60 := by have := HN.out; have := HN3.out; omega
    clear hb3 hrow hti HPA HR1
    obtain ⟨y, hy⟩ : ∃ y, byAt l = y := ⟨_, rfl⟩
    rw [hy]
    have HY := Lib.hid hy
    clear hy
    obtain ⟨q0, hq0⟩ : ∃ q, 1 + 10 * (y 0 : Int) = q := ⟨_, rfl⟩
    obtain ⟨q1, hq1⟩ : ∃ q, 1 + ((y 1 % 20 : Nat) : Int) = q := ⟨_, rfl⟩
    obtain ⟨q2, hq2⟩ : ∃ q, 1 + ((y 2 % 50 : Nat) : Int) = q := ⟨_, rfl⟩
    obtain ⟨q3, hq3⟩ : ∃ q, (1 + ((y 1 % 20 : Nat) : Int)) * (1 + ((y 3 % 4 : Nat) : Int)) = q := ⟨_, rfl⟩
    obtain ⟨q4, hq4⟩ : ∃ q, ((y 4 % 3 : Nat) : Int) = q := ⟨_, rfl⟩
    obtain ⟨q5, hq5⟩ : ∃ q, ((y 5 % 3 : Nat) : Int) = q := ⟨_, rfl⟩
    obtain ⟨q6, hq6⟩ : ∃ q, ((y 6 % 4 : Nat) : Int) = q := ⟨_, rfl⟩
    obtain ⟨q7, hq7⟩ : ∃ q, ((y 7 : Nat) : Int) = q := ⟨_, rfl⟩
    have hta : tlArr y (.slice A5 m c5) E = tlQ q0 q1 q2 q3 q4 q5 q6 q7 (.slice A5 m c5) E := by unfold tlArr; rw [hq0, hq3, hq1, hq2, hq4, hq5, hq6, hq7]
    have HTS : Hid (tsArr y 6 = #[.int .i64 q0, .int .i64 q1, .int .i64 q2, .int .i64 q3, .int .i64 q4, .int .i64 q5, .int .i64 100, .int .i64 100, .int .i64 100, .int .i64 100, .int .i64 100, .int .i64 100, .int .i64 4, .int .i64 2, .int .i64 3, .int .i64 1073741824, .int .i64 0, .int .i64 5, .int .i64 q6, .string ⟨#[115, 116, 111, 99, 107, 62, 48]⟩, .string ⟨#[111, 119, 110]⟩, .int .u64 q7]) := Lib.hid (by rw [← hq0, ← hq1, ← hq2, ← hq3, ← hq4, ← hq5, ← hq6, ← hq7]; rfl)
    rw [hta]
    clear hta hq0 hq1 hq2 hq3 hq4 hq5 hq6 hq7 hm
    go_upto_region 4 with (first
      | (refine Zad _ rfl 54 (.tmp 6) (.tmp 15) rfl 0 (tlQ q0 q1 q2 q3 q4 q5 q6 q7 (.slice A5 m c5) E) rfl rfl (Blk.new _ _ _) (by show 0 + 24 ≤ 24; omega) tl_info (by simp [tlQ, Value.oneCell']) ?_; intro w4 hb4 hk4 hs4)
      | fail)
    (try simp only [Exit.inBlock, Exit.then])
    obtain ⟨tb, htb⟩ : ∃ b, w3.heap.size = b := ⟨_, rfl⟩
    rw [put_tl, htb] at hb4
    have HK4 : Hid (Kept (fun _ => False) w3 w4) := Lib.hid (((Kept.refl (fun _ => False) w3).alloc _).trans' hk4 (fun i hi e => by have e' : i = w3.heap.size := e; omega))
    have HX4 := Lib.hid hb4
    have HB4 : Hid (Below w.heap.size w w4) := Lib.hid (HB3.out.trans (HK4.out.toBelow (fun i h => h.elim) HB3.out.size))
    have HR4 : Hid (Blk w4 rb 32 #[.int .i64 0, .int .i64 0, .int .i64 0, .int .i64 0, .int .i64 0, .int .i64 0, .int .i64 0, .int .i64 0, .int .i64 0, .int .i64 0, .int .i64 0, .int .i64 0, .int .i64 0, .int .i64 0, .int .i64 0, .int .i64 0, .int .i64 0, .int .i64 0, .int .i64 0, .string ⟨#[]⟩, .string ⟨#[]⟩, .int .u64 0]) := Lib.hid (HR3.out.kept HK4.out (fun h => h))
    have HRW4 : Hid (RowIn w4 w3.heap.size 13 A5 L.length (L.flatMap stpC)) := Lib.hid (HRW.out.kept HK4.out (Nat.le_refl _) (fun i hi h => h))
    have HTBw : Hid (w.heap.size ≤ tb ∧ tb < w4.heap.size ∧ w3.heap.size = tb ∧ rb < tb) := Lib.hid (by have := hb4.lt; have := HB3.out.size; have := HR3.out.lt; omega)
    have t22 : w4.cell? ⟨tb, 22, none⟩ = some (.slice A5 m c5) := HX4.out.cell 22
    clear hb4 hk4 hs4 HR3 HRW
    try rw [htb]
    clear htb
    go_wp2_with fail
    obtain ⟨B, hB⟩ : ∃ b, w4.heap.size = b := ⟨_, rfl⟩
    have HBB := Lib.hid hB
    clear hB
    go_loopw [19, 7] (fun i v7 wr => ∃ k : Nat, ∃ A7 n7 c7, k ≤ m ∧ i = .int .i64 (k : Nat) ∧ v7 = .slice A7 n7 c7 ∧ n7 ≤ k ∧ Hid ((tlTells (L.take k)).length = n7) ∧ Hid (wr.ownsRow B 59 8 (.slice A7 n7 c7) n7 ((tlTells (L.take k)).flatMap evC)) ∧ Hid (Below w4.heap.size w4 wr)) (fun i _ _ => m - (intOf i).toNat)
    case atStart => exact ⟨0, none, 0, 0, by omega, rfl, rfl, by omega, Lib.hid rfl, Lib.hid (own_nil _ _ _ _), Lib.hid (Below.refl _ _)⟩
    case round =>
      obtain ⟨k, A7, n7, c7, hk, rfl, rfl, hnk, hn7, ho, hbw⟩ := hrel
      by_cases hlt : k < m
      · obtain ⟨s, hs⟩ : ∃ s, L[k]? = some s := ⟨L[k]'(by rw [HM.out]; exact hlt), List.getElem?_eq_getElem _⟩
        obtain ⟨g, o, rfl, hgB, hcl⟩ := stp_at HRW4.out hs
        have hk8 : (k : Int) < (m : Int) := by omega
        have hk9 : (0 : Int) ≤ (k : Int) := by omega
        have HSN := Lib.hid (tells_take hs)
        have hl1 : (loadVar 61 ⟨g, o + k * 13, none⟩).run Tryz.prog wr = .ok (.agg (stpA s)) wr := run_loadVar_off wr g (o + k * 13) _ (stpA s) _ (fun j v hv => (hbw.out.cell (p := ⟨g, _, none⟩) (by show g < _; have := HTBw.out; omega)).trans (hcl j v hv)) Tryz.underlying61 rfl stp_size
        clear hs hcl
        go_upto_region 8 with (first
          | (refine wpList_load_whole rfl 61 (.tmp 21) rfl _ rfl hl1 ?_)
          | (refine Zad _ rfl 61 (.tmp 9) (.tmp 22) rfl 0 (stpA s) rfl rfl (Blk.new _ _ _) (by show 0 + 13 ≤ 13; omega) stp_size (by simp [stpA, Value.oneCell']) ?_; intro w5 hb5 hk5 hs5)
          | fail)
        (try simp only [Exit.inBlock, Exit.then])
        rw [put_stp] at hb5
        have HK5 : Hid (Kept (fun _ => False) wr w5) := Lib.hid (((Kept.refl (fun _ => False) wr).alloc _).trans' hk5 (fun i hi e => by have e' : i = wr.heap.size := e; omega))
        obtain ⟨sb, hsb⟩ : ∃ b, wr.heap.size = b := ⟨_, rfl⟩
        rw [hsb] at hb5
        have HS5 := Lib.hid hb5
        have HB5 : Hid (Below w4.heap.size w4 w5) := Lib.hid (hbw.out.trans (HK5.out.toBelow (fun i h => h.elim) hbw.out.size))
        have HO5 : Hid (w5.ownsRow B 59 8 (.slice A7 n7 c7) n7 ((tlTells (L.take k)).flatMap evC)) := Lib.hid (owns_kept ho.out HK5.out (fun _ _ h => h))
        have HBz : Hid (B ≤ w5.heap.size) := Lib.hid (by have := HB5.out.size; have := HBB.out; omega)
        have g0 : w5.cell? ⟨sb, 0, none⟩ = some (.int .i64 s.what) := HS5.out.cell 0
        clear hb5 hk5 hs5 hl1
        try rw [hsb]
        clear hsb
        by_cases hw : s.what = 0
        · have b0 : (s.what == 0) = true := beq_iff_eq.2 hw
          have HSM : Hid (tlTells (L.take (k + 1)) = tlTells (L.take k) ++ [s.ev]) := Lib.hid (by rw [HSN.out, if_pos hw])
          have hl2 : (loadVar 59 ⟨sb, 1, none⟩).run Tryz.prog w5 = .ok (.agg #[.string s.ev.src, .int .i64 s.ev.num, .int .i64 s.ev.tick, .int .i64 s.ev.kind, .string s.ev.person, .string s.ev.item, .int .i64 s.ev.value, .string s.ev.text]) w5 := run_loadVar_off w5 sb 1 _ _ _ (fun j v hv => by
            rw [HS5.out.cell (1 + j), ← hv]
            have hj : j < 8 := (Array.getElem?_eq_some_iff.1 hv).1
            have hh : j = 0 ∨ j = 1 ∨ j = 2 ∨ j = 3 ∨ j = 4 ∨ j = 5 ∨ j = 6 ∨ j = 7 := by omega
            rcases hh with rfl | rfl | rfl | rfl | rfl | rfl | rfl | rfl <;> rfl) Tryz.underlying59 rfl tev_size
          have HR1 := Lib.hid (ev1_row w5 s.ev 59)
          clear hw
          go_wp2_with (first
            | (refine wpList_load_whole rfl 59 (.tmp 27) rfl _ rfl hl2 ?_)
            | (at_builtin; refine Zaa _ rfl _ _ 23 rfl B 59 iE _ 8 96 Tryz.underlying23 hi0 hz0 hz1 hz2 rfl (by omega) (.slice A7 n7 c7) n7 _ rfl (HO5.out.alloc _) (w5.heap.size + 1) (some ⟨w5.heap.size, 0, none⟩) 1 1 (evC s.ev) rfl HR1.out (fun h => by cases h) (fun u hu => Zb1 [s.ev] u (by simpa using hu)) (by unfold maxLen; omega) (by omega) (by have := HBz.out; simp; omega) ?_; intro v10 w10 ho10 hg10 hv10))
          obtain ⟨A8, c8, hv⟩ := own_shape ho10
          subst hv
          have HB10 : Hid (Below w4.heap.size w4 w10) := Lib.hid ((HB5.out.alloc HB5.out.size _).grown hg10 (by have := HB5.out.size; simp; omega) (fun j hj => by have := (HO5.out.lt _ hj).1; have := HBB.out; omega))
          go_roundw
          case rel =>
            refine ⟨k + 1, A8, n7 + 1, c8, by omega, by go_num, rfl, by omega, Lib.hid (by rw [HSM.out, List.length_append, hn7.out]; rfl), Lib.hid ?_, HB10⟩
            rw [HSM.out, List.flatMap_append, List.flatMap_cons, List.flatMap_nil, List.append_nil]
            exact ho10
          case measure => simp [intOf]; omega
        · have b0 : (s.what == 0) = false := by rw [Bool.eq_false_iff]; intro e; exact hw (beq_iff_eq.1 e)
          have HSM : Hid (tlTells (L.take (k + 1)) = tlTells (L.take k)) := Lib.hid (by rw [HSN.out, if_neg hw, List.append_nil])
          clear hw
          go_wp2_with fail
          go_roundw
          case rel => exact ⟨k + 1, A7, n7, c7, by omega, by go_num, rfl, by omega, Lib.hid (by rw [HSM.out]; exact hn7.out), Lib.hid (by rw [HSM.out]; exact HO5.out), HB5⟩
          case measure => simp [intOf]; omega
      · obtain rfl : m = k := by omega
        have hk8 : ¬ (m : Int) < (m : Int) := by omega
        have HTK : Hid (L.take m = L) := Lib.hid (by rw [← HM.out, List.take_length])
        have HSC : Hid (∀ W, Kept (fun b => b = rb) w4 W → W.cell? ⟨tb, 23, none⟩ = some (.int .i64 E)) := Lib.hid (fun W hW => by
          have h : Blk W tb 54 (tlQ q0 q1 q2 q3 q4 q5 q6 q7 (.slice A5 m c5) E) := HX4.out.kept hW (by have := HTBw.out; omega)
          exact h.cell 23)
        have HL22 : Hid (∀ W, Kept (fun b => b = rb) w4 W → (loadVar 32 ⟨tb, 0, none⟩).run Tryz.prog W = .ok (.agg #[.int .i64 q0, .int .i64 q1, .int .i64 q2, .int .i64 q3, .int .i64 q4, .int .i64 q5, .int .i64 100, .int .i64 100, .int .i64 100, .int .i64 100, .int .i64 100, .int .i64 100, .int .i64 4, .int .i64 2, .int .i64 3, .int .i64 1073741824, .int .i64 0, .int .i64 5, .int .i64 q6, .string ⟨#[115, 116, 111, 99, 107, 62, 48]⟩, .string ⟨#[111, 119, 110]⟩, .int .u64 q7]) W) := Lib.hid (fun W hW => by
          have h : Blk W tb 54 (tlQ q0 q1 q2 q3 q4 q5 q6 q7 (.slice A5 m c5) E) := HX4.out.kept hW (by have := HTBw.out; omega)
          refine run_loadVar_off W tb 0 _ _ _ (fun j v hv => ?_) Tryz.underlying32 rfl tsg_info
          rw [h.cell (0 + j), ← hv, Nat.zero_add]
          have hj : j < 22 := (Array.getElem?_eq_some_iff.1 hv).1
          have hh : j = 0 ∨ j = 1 ∨ j = 2 ∨ j = 3 ∨ j = 4 ∨ j = 5 ∨ j = 6 ∨ j = 7 ∨ j = 8 ∨ j = 9 ∨ j = 10 ∨ j = 11 ∨ j = 12 ∨ j = 13 ∨ j = 14 ∨ j = 15 ∨ j = 16 ∨ j = 17 ∨ j = 18 ∨ j = 19 ∨ j = 20 ∨ j = 21 := by omega
          rcases hh with rfl | rfl | rfl | rfl | rfl | rfl | rfl | rfl | rfl | rfl | rfl | rfl | rfl | rfl | rfl | rfl | rfl | rfl | rfl | rfl | rfl | rfl <;> rfl)
        have HKD : Hid (Kept (fun b => b = rb) w4 wr) := Lib.hid (below_kept hbw.out (Nat.le_refl _))
        go_wp2_with fail
        refine Zar (fun W => Kept (fun b => b = rb) w4 W) [(0, false), (1, false), (2, false), (3, false), (4, false), (5, false), (6, true), (7, false), (8, false)] (by kernel_rfl) (by kernel_rfl) HKD.out.drew ?_
        simp only [planL, List.getElem?_cons_zero, List.getElem?_cons_succ]
        obtain ⟨wd, hwd⟩ : ∃ z, wr.drew = z := ⟨_, rfl⟩
        have HKE : Hid (Kept (fun b => b = rb) w4 wd) := Lib.hid (by rw [← hwd]; exact HKD.out.drew)
        have HOD : Hid (wd.ownsRow B 59 8 (.slice A7 n7 c7) n7 ((tlTells (L.take m)).flatMap evC)) := Lib.hid (by rw [← hwd]; exact ho.out)
        have HBD : Hid (Below w.heap.size w wd) := Lib.hid (by rw [← hwd]; exact below_drew (HB4.out.trans (hbw.out.mono HB4.out.size)))
        have HRD : Hid (Blk wd rb 32 #[.int .i64 0, .int .i64 0, .int .i64 0, .int .i64 0, .int .i64 0, .int .i64 0, .int .i64 0, .int .i64 0, .int .i64 0, .int .i64 0, .int .i64 0, .int .i64 0, .int .i64 0, .int .i64 0, .int .i64 0, .int .i64 0, .int .i64 0, .int .i64 0, .int .i64 0, .string ⟨#[]⟩, .string ⟨#[]⟩, .int .u64 0]) := Lib.hid (by rw [← hwd]; exact (hbw.out.block _ HR4.out.lt).trans HR4.out)
        rw [hwd]
        clear hwd
        repeat (first | (refine Zaf _ (by rfl) (fun W hW => by first | exact exec_load rfl rfl (HL22.out W hW) | (have y22 := HSC.out W hW; go_simp; try with_reducible rfl)) ?_; simp only [Act.put, List.setIfInBounds_toArray, List.set_cons_zero, List.set_cons_succ]) | (refine Zac (by rfl) ?_; simp only [Act.put, List.setIfInBounds_toArray, List.set_cons_zero, List.set_cons_succ]))
        refine Zae ?_
        refine Zad wd rfl 32 (.tmp 3) (.tmp 34) rfl 0 #[.int .i64 q0, .int .i64 q1, .int .i64 q2, .int .i64 q3, .int .i64 q4, .int .i64 q5, .int .i64 100, .int .i64 100, .int .i64 100, .int .i64 100, .int .i64 100, .int .i64 100, .int .i64 4, .int .i64 2, .int .i64 3, .int .i64 1073741824, .int .i64 0, .int .i64 5, .int .i64 q6, .string ⟨#[115, 116, 111, 99, 107, 62, 48]⟩, .string ⟨#[111, 119, 110]⟩, .int .u64 q7] rfl rfl HRD.out (by show 0 + 22 ≤ 22; omega) tsg_info (by simp [Value.oneCell']) ?_
        intro w7 hb7 hk7 hz7
        simp only [putA, List.setIfInBounds_toArray, List.set_cons_zero, List.set_cons_succ] at hb7
        have HX7 : Hid (Blk w7 rb 32 #[.int .i64 q0, .int .i64 q1, .int .i64 q2, .int .i64 q3, .int .i64 q4, .int .i64 q5, .int .i64 100, .int .i64 100, .int .i64 100, .int .i64 100, .int .i64 100, .int .i64 100, .int .i64 4, .int .i64 2, .int .i64 3, .int .i64 1073741824, .int .i64 0, .int .i64 5, .int .i64 q6, .string ⟨#[115, 116, 111, 99, 107, 62, 48]⟩, .string ⟨#[111, 119, 110]⟩, .int .u64 q7]) := Lib.hid hb7
        have HK7 := Lib.hid hk7
        have HK47 : Hid (Kept (fun b => b = rb) w4 w7) := Lib.hid (HKE.out.trans hk7)
        clear hb7 hk7 hz7
        refine ⟨HK47.out, ?_⟩
        repeat (first | (refine Zaf _ (by rfl) (fun W hW => by (go_simp; try with_reducible rfl)) ?_; simp only [Act.put, List.setIfInBounds_toArray, List.set_cons_zero, List.set_cons_succ]) | (refine Zac (by rfl) ?_; simp only [Act.put, List.setIfInBounds_toArray, List.set_cons_zero, List.set_cons_succ]))
        refine Zah ?_
        go_wp2_with fail
        refine bodyPost_ret (results_4 (rb := rb) rfl rfl (run_loadVar_row w7 rb _ _ #[.int .i64 q0, .int .i64 q1, .int .i64 q2, .int .i64 q3, .int .i64 q4, .int .i64 q5, .int .i64 100, .int .i64 100, .int .i64 100, .int .i64 100, .int .i64 100, .int .i64 100, .int .i64 4, .int .i64 2, .int .i64 3, .int .i64 1073741824, .int .i64 0, .int .i64 5, .int .i64 q6, .string ⟨#[115, 116, 111, 99, 107, 62, 48]⟩, .string ⟨#[111, 119, 110]⟩, .int .u64 q7] (0, 0) _ HX7.out Tryz.underlying32 rfl tsg_info)) rfl ?_
        have HO7 := Lib.hid (owns_kept HOD.out HK7.out (fun g hg e => by have := (HOD.out.lt g hg).1; have := HTBw.out; have := HBB.out; omega))
        refine ⟨A7, n7, c7, #[.int .i64 q0, .int .i64 q1, .int .i64 q2, .int .i64 q3, .int .i64 q4, .int .i64 q5, .int .i64 100, .int .i64 100, .int .i64 100, .int .i64 100, .int .i64 100, .int .i64 100, .int .i64 4, .int .i64 2, .int .i64 3, .int .i64 1073741824, .int .i64 0, .int .i64 5, .int .i64 q6, .string ⟨#[115, 116, 111, 99, 107, 62, 48]⟩, .string ⟨#[111, 119, 110]⟩, .int .u64 q7], E, true, rfl, rfl, by simp [Value.oneCell'], by rw [HN.out]; exact HD.out.symm, HBD.out.trans (HK7.out.toBelow (fun i hi => by rw [hi]; exact HRB.out) HBD.out.size), fun _ => ⟨L, a, b, HTI.out, by rw [HM.out]; exact hm300, by rw [← HTK.out]; exact hn7.out, by rw [HY.out, HTS.out], ?_, fun h => own_none_cap (h ▸ HO7.out)⟩⟩
        have h9 := RowIn.of_own HO7.out
        rw [HTK.out] at h9
        unfold EvsAt
        rw [show (tlTells L).length = n7 by rw [← HTK.out]; exact hn7.out]
        exact h9
end Go.Proofs.YtnpfaajhgghpgaaGreatDoor
