/- fill: a crowd, and the document's rows. -/
import Derived.Test.YtnkglbiakjnfjaaDoorCrAb
import Derived.Test.YtnkglbiakjnfjaaDoorCrTags
import Derived.Test.YtnkglbiakjnfjaaDoorRPut
namespace Go.Proofs.YtnkglbiakjnfjaaDoor
open Go.Shelf Go.RowKit Go.Maps
set_option linter.unusedVariables false

def crowdOf (l : List Rw) : List Rw := l.foldl aftC []
theorem crowdOf_snoc (l : List Rw) (r : Rw) : crowdOf (l ++ [r]) = aftC (crowdOf l) r := by unfold crowdOf; rw [List.foldl_append]; rfl
theorem crowdOf_len (l : List Rw) : (crowdOf l).length ≤ l.length := by
  refine snocInd' (p := fun l => (crowdOf l).length ≤ l.length) l (Nat.le_refl _) (fun l r ih => ?_)
  rw [crowdOf_snoc, List.length_append]
  have := aft_len (crowdOf l) r
  simp; omega
theorem own_ne_own {w : World} {b e s n b' e' s' n' : Nat} {v v' : Value} {xs xs' : List Value} (h : w.ownsRow b e s v n xs) (h' : w.ownsRow b' e' s' v' n' xs') (hne : e ≠ e') {g : Nat} (hg : v.ownBlock = some g) : v'.ownBlock ≠ some g := by
  intro hv
  rcases h.2 with ⟨rfl, _⟩ | ⟨g1, cap, cur, rfl, _, hh, _⟩
  · simp [Value.ownBlock] at hg
  rcases h'.2 with ⟨rfl, _⟩ | ⟨g2, cap2, cur2, rfl, _, hh2, _⟩
  · simp [Value.ownBlock] at hv
  simp [Value.ownBlock] at hg hv
  subst hg hv
  rw [hh] at hh2
  injection hh2 with hh2
  injection hh2 with _ hh2 _
  exact hne hh2
theorem doc_info : (Tryd.prog.info? 43).map (fun i => (i.zero, i.size, i.bytes)) = some (some (.agg #[.string ⟨#[]⟩, .int .i64 0, .int .i64 0, .int .i64 0, .string ⟨#[]⟩, .string ⟨#[]⟩, .int .i64 0, .string ⟨#[]⟩, .slice none 0 0]), 9, 120) := by kernel_rfl
/-- The document's rows lie there; V: their blocks. -/
structure DocIn (w : World) (A : Option Addr) (n c : Nat) (xl : List Rd) (V : Nat → Prop) (xs : List Rw) : Prop where
  own : w.ownsRow 0 43 9 (.slice A n c) n (xl.flatMap rdC)
  len : xs.length = n
  rel : DdsIs w xl xs
  ub : ∀ g, (Value.slice A n c).ownBlock = some g → V g
  ut : ∀ r ∈ xl, ∀ g, r.blk = some g → V g
  lt : ∀ q, V q → q < w.heap.size
def DocAt (w : World) (A : Option Addr) (n c : Nat) (V : Nat → Prop) (xs : List Rw) : Prop := ∃ xl, DocIn w A n c xl V xs
theorem DocIn.kept {w w' : World} {A : Option Addr} {n c : Nat} {xl : List Rd} {V S : Nat → Prop} {xs : List Rw} (h : DocIn w A n c xl V xs) (k : Kept S w w') (hS : ∀ q, V q → ¬ S q) : DocIn w' A n c xl V xs :=
  ⟨owns_kept h.own k (fun g hg => hS g (h.ub g hg)), h.len, h.rel.kept k (fun r hr g hg => hS g (h.ut r hr g hg)), h.ub, h.ut, fun q hq => Nat.lt_of_lt_of_le (h.lt q hq) k.size⟩
theorem DocIn.below {w w' : World} {A : Option Addr} {n c : Nat} {xl : List Rd} {V : Nat → Prop} {xs : List Rw} (h : DocIn w A n c xl V xs) (k : Below w.heap.size w w') : DocIn w' A n c xl V xs := h.kept (below_kept (S := fun _ => False) k (Nat.le_refl _)) (fun _ _ h => h)
theorem DocAt.kept {w w' : World} {A : Option Addr} {n c : Nat} {V S : Nat → Prop} {xs : List Rw} (h : DocAt w A n c V xs) (k : Kept S w w') (hS : ∀ q, V q → ¬ S q) : DocAt w' A n c V xs := by
  obtain ⟨xl, h⟩ := h; exact ⟨xl, h.kept k hS⟩
theorem DocAt.below {w w' : World} {A : Option Addr} {n c : Nat} {V : Nat → Prop} {xs : List Rw} (h : DocAt w A n c V xs) (k : Below w.heap.size w w') : DocAt w' A n c V xs := by
  obtain ⟨xl, h⟩ := h; exact ⟨xl, h.below k⟩
theorem DocAt.lt {w : World} {A : Option Addr} {n c : Nat} {V : Nat → Prop} {xs : List Rw} (h : DocAt w A n c V xs) : ∀ q, V q → q < w.heap.size := by
  obtain ⟨xl, h⟩ := h; exact h.lt
theorem DocAt.len {w : World} {A : Option Addr} {n c : Nat} {V : Nat → Prop} {xs : List Rw} (h : DocAt w A n c V xs) : xs.length = n := by
  obtain ⟨xl, h⟩ := h; exact h.len
theorem doc_nil (w : World) : DocAt w none 0 0 (fun _ => False) [] := ⟨[], own_nil _ _ _ _, rfl, ⟨rfl, fun j r x hr => by simp at hr⟩, fun g hg => by simp [Value.ownBlock] at hg, fun r hr => (by cases hr), fun q h => h.elim⟩
theorem DdsIs.snoc {w : World} {l : List Rd} {xs : List Rw} (h : DdsIs w l xs) {r : Rd} {x : Rw} (hr : DdIs w r x) : DdsIs w (l ++ [r]) (xs ++ [x]) := by
  refine ⟨by rw [List.length_append, List.length_append, h.1]; rfl, fun j r' x' h1 h2 => ?_⟩
  rcases Nat.lt_or_ge j l.length with hj | hj
  · rw [List.getElem?_append_left hj] at h1
    rw [List.getElem?_append_left (by rw [← h.1]; exact hj)] at h2
    exact h.2 j r' x' h1 h2
  · rw [List.getElem?_append_right hj] at h1
    rw [List.getElem?_append_right (by rw [← h.1]; exact hj), ← h.1] at h2
    rcases Nat.eq_zero_or_pos (j - l.length) with h0 | h0
    · rw [h0] at h1 h2
      simp at h1 h2
      subst h1 h2
      exact hr
    · rw [List.getElem?_eq_none (by simp; omega)] at h1
      cases h1
theorem DocIn.more {w w1 w2 : World} {A A7 A' : Option Addr} {n c m c7 c' : Nat} {xl : List Rd} {V : Nat → Prop} {xs : List Rw} {e : Ev} {q : List ByteArray} (h : DocIn w A n c xl V xs) (k1 : Below w.heap.size w w1)
    (hm : q.length = m) (ht : w1.ownsRow w.heap.size 9 1 (.slice A7 m c7) m (q.map .string))
    (k2 : Kept (fun g => (Value.slice A n c).ownBlock = some g) w1 w2)
    (ho : w2.ownsRow 0 43 9 (.slice A' (n + 1) c') (n + 1) (xl.flatMap rdC ++ rdC ⟨e, A7, m, c7⟩))
    (hv : (Value.slice A' (n + 1) c').ownBlock = (Value.slice A n c).ownBlock ∨ ∃ g, (Value.slice A' (n + 1) c').ownBlock = some g ∧ w1.heap.size ≤ g) :
    ∃ V', DocAt w2 A' (n + 1) c' V' (xs ++ [⟨e, q⟩]) ∧ (∀ g, V' g → V g ∨ w.heap.size ≤ g) := by
  have h1 := h.below k1
  refine ⟨fun g => V g ∨ (w.heap.size ≤ g ∧ g < w2.heap.size), ⟨xl ++ [⟨e, A7, m, c7⟩], ?_, ?_, ?_, ?_, ?_, ?_⟩, fun g hg => hg.imp id (fun h => h.1)⟩
  · rw [List.flatMap_append]; simpa using ho
  · rw [List.length_append, h.len]; rfl
  · refine DdsIs.snoc (h1.rel.kept k2 (fun r hr g hg hs => ?_)) ⟨rfl, hm.symm, ?_⟩
    · obtain ⟨j, hj⟩ := List.mem_iff_getElem?.1 hr
      have hl := (List.getElem?_eq_some_iff.1 hj).1
      rw [h1.rel.1] at hl
      have ht2 := (h1.rel.2 j r _ hj (List.getElem?_eq_getElem hl)).2.2
      exact own_ne_own h1.own ht2 (by decide) hs hg
    · refine own_mono (owns_kept ht k2 (fun g hg hs => ?_)) (Nat.zero_le _)
      have := (ht.lt g hg).1
      have := h.lt g (h.ub g hs)
      omega
  · intro g hg
    rcases hv with hv | ⟨g', hv, hle⟩
    · exact Or.inl (h.ub g (by rw [← hv]; exact hg))
    · rw [hv] at hg
      injection hg with hg
      subst hg
      have := (ho.lt g' hv).2
      exact Or.inr ⟨Nat.le_trans k1.size hle, this⟩
  · intro r hr g hg
    rcases List.mem_append.1 hr with hr | hr
    · exact Or.inl (h.ut r hr g hg)
    · simp at hr
      subst hr
      have := ht.lt g hg
      exact Or.inr ⟨this.1, Nat.lt_of_lt_of_le this.2 k2.size⟩
  · intro g hg
    rcases hg with hg | hg
    · exact Nat.lt_of_lt_of_le (h1.lt g hg) k2.size
    · exact hg.2
def RiseT (xs : List Rw) : Prop := ∀ x ∈ xs, x.ts.Pairwise ltN ∧ x.ts.length ≤ 1000
/-- A crowd and the document's rows, apart from one another, made since w. -/
def FillIn (w wr : World) (cb : Nat) (hf : Int) (rows : List Rw) (A : Option Addr) (n c : Nat) : Prop := ∃ (U V : Nat → Prop) (xs : List Rw), CrAt wr cb hf U (crowdOf rows) ∧ DocAt wr A n c V xs ∧ (∀ q, U q → ¬ V q) ∧ (∀ q, U q ∨ V q → w.heap.size ≤ q) ∧ Tw (crowdOf rows) xs ∧ RiseT xs
theorem Tw.len {a b : List Rw} (h : Tw a b) : a.length = b.length := by
  induction h with
  | nil => rfl
  | snoc h hr ih => simp [ih]
theorem lastE_none {rs : List Rw} (h : lastE rs = none) : rs.length = 0 := by
  unfold lastE at h
  simp at h
  rw [h]; rfl
/-- Names of some, rising. -/
def NmOf (ts q : List ByteArray) : Prop := q.Pairwise ltN ∧ ∀ y, y ∈ q ↔ y ∈ ts ∧ nameB y = true
theorem ltN_nodup {q : List ByteArray} (h : q.Pairwise ltN) : q.Nodup := h.imp (fun hab e => by subst e; exact ltN_irr _ hab)
theorem NmOf.tw {ts q : List ByteArray} (h : NmOf ts q) (e : Ev) : TwR ⟨e, tagsP ts⟩ ⟨e, q⟩ := ⟨rfl, (tagsP_is ts).1, ltN_nodup h.1, fun t => by rw [(tagsP_is ts).2 t, h.2 t]⟩

set_option maxHeartbeats 16000000 in
set_option maxRecDepth 100000 in
theorem fill_any (half : Int) (A : Option Addr) (n c : Nat) (l : List Ri) (w : World) (ha : RwArg w A n c l) (hs : n ≤ 40 ∧ RisSmall l) (hg : GlobAt w) :
    Calls Tryd.prog 13 #[.int .i64 half, .slice A n c] w fun e w' => ∃ (cb : Nat) (A' : Option Addr) (n' c' : Nat), e = .returned (.tuple #[.pointer (some ⟨cb, 0, none⟩), .slice A' n' c']) ∧ FillIn w w' cb (halfP half) (l.map rwOf) A' n' c' ∧ Below w.heap.size w w' := by
  obtain ⟨hn, hl, hnb, hnil, hok⟩ := ha
  obtain ⟨h40, hsm⟩ := hs
  have HN := Lib.hid hn
  have HL := Lib.hid hl
  have HOK := Lib.hid hok
  have HSM := Lib.hid hsm
  have HG := Lib.hid hg
  clear hn hl hok hg hsm
  obtain ⟨hf, hhf⟩ : ∃ hf, halfP half = hf := ⟨_, rfl⟩
  have HN1 := Lib.hid (new_any half w)
  rw [hhf] at HN1 ⊢
  clear hhf
  go_enter Tryd.func13, Tryd.ntmps13
  go_wp2_with fail
  refine HN1.out.mono ?_
  rintro e w1 ⟨cb, U1, rfl, hc1, hu1, hb1⟩
  have HB1 := Lib.hid hb1
  have HF0 : Hid (FillIn w w1 cb hf ((l.take 0).map rwOf) none 0 0) := Lib.hid ⟨U1, fun _ => False, [], by simpa [crowdOf] using hc1, doc_nil _, fun _ _ h => h, fun q hq => hq.elim (hu1 q) (fun h => h.elim), by simpa [crowdOf] using Tw.nil, fun x hx => by cases hx⟩
  obtain ⟨i0, hi0, hz0, hz1, hz2⟩ := info_parts str_info
  obtain ⟨i1, hi1, hy0, hy1, hy2⟩ := info_parts doc_info
  clear hc1 hu1 hb1 HN1
  go_wp2_with fail
  go_loopw [7, 21] (fun v i wr => ∃ (k : Nat) (A' : Option Addr) (n' c' : Nat), k ≤ n ∧ v = .slice A' n' c' ∧ i = .int .i64 k ∧ Hid (FillIn w wr cb hf ((l.take k).map rwOf) A' n' c') ∧ Hid (Below w.heap.size w wr)) (fun _ i _ => n - (intOf i).toNat)
  case atStart => exact ⟨0, none, 0, 0, Nat.zero_le _, rfl, rfl, HF0, HB1⟩
  case round =>
    clear HF0 HB1
    obtain ⟨k, A', n', c', hk, rfl, rfl, hfi, hbw⟩ := hrel
    obtain ⟨wo, rfl⟩ : ∃ wo : World, wo = wr := ⟨_, rfl⟩
    by_cases hlt : k < n
    · obtain ⟨x, hx⟩ : ∃ x, l[k]? = some x := ⟨l[k]'(by rw [HN.out]; exact hlt), List.getElem?_eq_getElem _⟩
      have HTKE : Hid (l.take (k + 1) = l.take k ++ [x]) := Lib.hid (take_snoc hx)
      obtain ⟨g, o, rfl, hgB, hcl⟩ := rds_at HL.out (by omega)
      obtain ⟨e0, e1, e2, e3, e4, e5, e6, e7, e8⟩ : RdAt wo g (o + k * 9) x.1 := (hcl k x.1 (by simp [hx])).keep (fun j => hbw.out.cell (p := ⟨g, j, none⟩) hgB)
      have HXO := Lib.hid (HOK.out x (List.mem_of_getElem? hx))
      have HXS := Lib.hid (HSM.out x (List.mem_of_getElem? hx))
      obtain ⟨rd, ts⟩ := x
      obtain ⟨xb, xn, xr, _, _, xt⟩ := HXO.out
      dsimp only at xn xr xt e0 e1 e2 e3 e4 e5 e6 e7 e8
      have HXN := Lib.hid xn
      have HXR := Lib.hid xr
      have HXT : Hid (∀ t ∈ ts, t.size ≤ maxLen) := Lib.hid xt
      have HSH : Hid (EvSh rd.e) := Lib.hid HXS.out.2
      obtain ⟨m, hm⟩ : ∃ m, ts.length = m := ⟨_, rfl⟩
      have HML := Lib.hid hm
      have hm12 : m ≤ 12 := by rw [← hm]; exact HXS.out.1
      have HRN : Hid (rd.n = m) := Lib.hid (by rw [HXN.out, hm])
      have hk8 : (k : Int) < (n : Int) := by omega
      have hk9 : (0 : Int) ≤ (k : Int) := by omega
      have hwz := hbw.out.size
      rw [HRN.out] at e8 HXR
      obtain ⟨U, V, xs, hcr, hdoc, hdj, huv, htw, hri⟩ := hfi.out
      obtain ⟨rs, hrs⟩ : ∃ rs, crowdOf ((l.take k).map rwOf) = rs := ⟨_, rfl⟩
      rw [hrs] at hcr htw
      have HRS : Hid (crowdOf ((l.take (k + 1)).map rwOf) = aftC rs ⟨rd.e, ts⟩) := Lib.hid (by rw [HTKE.out, List.map_append, ← hrs]; exact crowdOf_snoc _ _)
      have HLEN : Hid (rs.length = n') := Lib.hid (by rw [htw.len]; exact hdoc.len)
      have HKL : Hid (rs.length ≤ k) := Lib.hid (by rw [← hrs]; refine Nat.le_trans (crowdOf_len _) ?_; rw [List.length_map, List.length_take]; omega)
      have hn40 : n' ≤ 40 := by have := HLEN.out; have := HKL.out; omega
      obtain ⟨xl, hdo⟩ := hdoc
      obtain ⟨w4, hw4⟩ : ∃ w4, wo.alloc (.cells (rdAr rd) 51) = w4 := ⟨_, rfl⟩
      have HBX : Hid (Blk w4 wo.heap.size 51 (rdAr rd)) := Lib.hid (by rw [← hw4]; exact Blk.new _ _ _)
      have HB4 : Hid (Below w.heap.size w w4) := Lib.hid (by rw [← hw4]; exact hbw.out.alloc hwz _)
      have HR4 : Hid (Below wo.heap.size wo w4) := Lib.hid (by rw [← hw4]; exact (Below.refl _ _).alloc (Nat.le_refl _) _)
      have HCR : Hid (CrAt w4 cb hf U rs) := Lib.hid (hcr.below HR4.out)
      have HDO : Hid (DocIn w4 A' n' c' xl V xs) := Lib.hid (hdo.below HR4.out)
      have HUL : Hid (∀ q, U q ∨ V q → w.heap.size ≤ q ∧ q < wo.heap.size) := Lib.hid (fun q hq => ⟨huv q hq, hq.elim (hcr.lt q) (hdo.lt q)⟩)
      have HDJ := Lib.hid hdj
      have HTT := Lib.hid htw
      have HRI := Lib.hid hri
      have HRA : Hid (rdAr rd = #[.string rd.e.src, .int .i64 rd.e.num, .int .i64 rd.e.tick, .int .i64 rd.e.kind, .string rd.e.person, .string rd.e.item, .int .i64 rd.e.value, .string rd.e.text, .slice rd.A m rd.c]) := Lib.hid (by unfold rdAr; rw [HRN.out])
      rw [HRA.out] at hw4
      have HMAY := Lib.hid (may_any rd.e w4.drew HSH.out (HG.out.keep (below_drew HB4.out) (Nat.le_refl _)))
      unfold evA at HMAY
      clear hcl hx xb xn xr xt hm hcr hdo hdj huv htw hri hrs
      go_wp2_with fail
      clear hw4 e0 e1 e2 e3 e4 e5 e6 e7 e8
      obtain ⟨rb, hrb⟩ : ∃ rb, wo.heap.size = rb := ⟨_, rfl⟩
      rw [hrb] at HBX HUL
      rw [hrb]
      have HRB := Lib.hid hrb
      clear hrb
      have HSS : Hid (∀ W, Below w4.heap.size w4 W → BoxR W rb rd m ∧ RowIn W w4.heap.size 9 A' n' (xl.flatMap rdC)) := Lib.hid (fun W hW => ⟨boxr_of (HBX.out.kept (below_kept (S := fun _ => False) hW (Nat.le_refl _)) (fun h => h)) HRN.out, (RowIn.of_own HDO.out.own).below hW⟩)
      refine wp_plan (fun W => BoxR W rb rd m ∧ RowIn W w4.heap.size 9 A' n' (xl.flatMap rdC)) [(0, false), (1, false), (2, true), (3, false), (4, false), (5, false), (6, false), (7, false), (8, false), (9, false), (10, false), (11, false), (12, false), (13, false), (14, false), (15, false), (16, false), (17, false), (18, false), (19, false), (20, false), (21, false), (22, false), (23, true), (24, false), (25, false), (26, false)] (by kernel_rfl) (by kernel_rfl) (HSS.out _ (below_drew (Below.refl _ _))) ?_
      simp only [planL, List.getElem?_cons_zero, List.getElem?_cons_succ]
      repeat (first | (refine plan_on _ (by rfl) (fun W hW => by (obtain ⟨⟨x0, x1, x2, x3, x4, x5, x6, x7, x8⟩, _⟩ := hW; go_simp; try with_reducible rfl)) ?_; simp only [Act.put, List.setIfInBounds_toArray, List.set_cons_zero, List.set_cons_succ]) | (refine plan_off (by rfl) ?_; simp only [Act.put, List.setIfInBounds_toArray, List.set_cons_zero, List.set_cons_succ]))
      refine plan_turn ?_
      go_wp2_with fail
      refine HMAY.out.mono ?_
      rintro e w5 ⟨rfl, hb5⟩
      have HB5 : Hid (Below w4.heap.size w4 w5) := Lib.hid (below_from 1 hb5)
      clear hb5 HMAY
      cases hmy : mayB rd.e
      · have HTK : Hid (takesC rs rd.e = false) := Lib.hid (by unfold takesC crB; rw [hmy]; rfl)
        clear hmy
        go_wp2_with fail
        refine ⟨HSS.out _ HB5.out, ?_⟩
        repeat (first | (refine plan_on _ (by rfl) (fun W hW => by (obtain ⟨⟨x0, x1, x2, x3, x4, x5, x6, x7, x8⟩, _⟩ := hW; go_simp; try with_reducible rfl)) ?_; simp only [Act.put, List.setIfInBounds_toArray, List.set_cons_zero, List.set_cons_succ]) | (refine plan_off (by rfl) ?_; simp only [Act.put, List.setIfInBounds_toArray, List.set_cons_zero, List.set_cons_succ]))
        refine plan_turn ?_
        go_wp2_with fail
        refine ⟨HSS.out _ HB5.out, ?_⟩
        repeat (first | (refine plan_on _ (by rfl) (fun W hW => by (obtain ⟨⟨x0, x1, x2, x3, x4, x5, x6, x7, x8⟩, _⟩ := hW; go_simp; try with_reducible rfl)) ?_; simp only [Act.put, List.setIfInBounds_toArray, List.set_cons_zero, List.set_cons_succ]) | (refine plan_off (by rfl) ?_; simp only [Act.put, List.setIfInBounds_toArray, List.set_cons_zero, List.set_cons_succ]))
        refine plan_done ?_
        obtain ⟨x0, x1, x2, x3, x4, x5, x6, x7, x8⟩ := (HSS.out _ HB5.out).1
        have HBW : Hid (Below w.heap.size w w5) := Lib.hid (HB4.out.trans (HB5.out.mono HB4.out.size))
        have HAP := Lib.hid (apply_any w5 cb hf U rs rd.e rd.A ts m rd.c (HCR.out.below HB5.out) HSH.out HML.out ((HXR.out.below HBW.out).more HBW.out.size) HXT.out (HG.out.keep HBW.out (Nat.le_refl _)) (by have := HKL.out; omega) (by omega) (fun h0 ad ha hu => by
          have h5 := (HUL.out _ (Or.inl hu)).1
          obtain ⟨b0, o0, e0, h1, _⟩ := HXR.out.at h0
          rw [ha] at e0
          have : ad.block = b0 := by injection e0 with e0; rw [e0]
          omega))
        rw [HTK.out] at HAP
        unfold evA at HAP
        go_wp2_with fail
        clear x0 x1 x2 x3 x4 x5 x6 x7 x8
        refine HAP.out.mono ?_
        rintro e w9 ⟨rfl, U', hc9, hs9, hn9, hk9'⟩
        have HC9 := Lib.hid hc9
        have HN9 := Lib.hid hn9
        have HD9 : Hid (DocIn w9 A' n' c' xl V xs) := Lib.hid ((HDO.out.below HB5.out).kept hk9' (fun q hv hu => HDJ.out q hu hv))
        have HB9 : Hid (Below w.heap.size w w9) := Lib.hid (HBW.out.trans (hk9'.toBelow (B := w.heap.size) (fun i hi => (HUL.out i (Or.inl hi)).1) HBW.out.size))
        have HX9 : Hid (Blk w9 rb 51 (rdAr rd)) := Lib.hid ((HBX.out.kept (below_kept (S := fun _ => False) HB5.out (Nat.le_refl _)) (fun h => h)).kept hk9' (fun h => by have := (HUL.out _ (Or.inl h)).2; omega))
        have HZ9 : Hid (rb < w5.heap.size ∧ w5.heap.size ≤ w9.heap.size) := Lib.hid ⟨Nat.lt_of_lt_of_le HBX.out.lt HB5.out.size, hk9'.size⟩
        have HZW := Lib.hid HBW.out.size
        clear hc9 hs9 hn9 hk9' HAP HCR HDO HB5 HBX HBW
        have HNEW : Hid (FillIn w w9 cb hf ((l.take (k + 1)).map rwOf) A' n' c') := Lib.hid ⟨U', V, xs, by rw [HRS.out]; exact HC9.out, ⟨xl, HD9.out⟩, fun q hu hv => by
            rcases HN9.out q hu with h | h
            · exact HDJ.out q h hv
            · have := (HUL.out q (Or.inr hv)).2; have := HZ9.out; omega, fun q hq => by
            rcases hq with hq | hq
            · rcases HN9.out q hq with h | h
              · exact (HUL.out q (Or.inl h)).1
              · have := HZW.out; omega
            · exact (HUL.out q (Or.inr hq)).1, by rw [HRS.out, aftC, HTK.out]; exact HTT.out, HRI.out⟩
        go_wp2_with fail
        go_roundw
        case rel => exact ⟨k + 1, A', n', c', by omega, rfl, by go_num, HNEW, HB9⟩
        case measure => simp [intOf]; omega
      have HMY := Lib.hid hmy
      clear hmy
      by_cases hkd : rd.e.kind < 11
      rotate_left
      · have HTK : Hid (takesC rs rd.e = false) := Lib.hid (by unfold takesC crB; rw [decide_eq_false hkd]; simp)
        have hkf : decide (rd.e.kind < 11) = false := decide_eq_false hkd
        go_wp2_with fail
        refine ⟨HSS.out _ HB5.out, ?_⟩
        repeat (first | (refine plan_on _ (by rfl) (fun W hW => by (obtain ⟨⟨x0, x1, x2, x3, x4, x5, x6, x7, x8⟩, _⟩ := hW; go_simp; try with_reducible rfl)) ?_; simp only [Act.put, List.setIfInBounds_toArray, List.set_cons_zero, List.set_cons_succ]) | (refine plan_off (by rfl) ?_; simp only [Act.put, List.setIfInBounds_toArray, List.set_cons_zero, List.set_cons_succ]))
        refine plan_turn ?_
        go_wp2_with fail
        refine ⟨HSS.out _ HB5.out, ?_⟩
        repeat (first | (refine plan_on _ (by rfl) (fun W hW => by (obtain ⟨⟨x0, x1, x2, x3, x4, x5, x6, x7, x8⟩, _⟩ := hW; go_simp; try with_reducible rfl)) ?_; simp only [Act.put, List.setIfInBounds_toArray, List.set_cons_zero, List.set_cons_succ]) | (refine plan_off (by rfl) ?_; simp only [Act.put, List.setIfInBounds_toArray, List.set_cons_zero, List.set_cons_succ]))
        refine plan_done ?_
        obtain ⟨x0, x1, x2, x3, x4, x5, x6, x7, x8⟩ := (HSS.out _ HB5.out).1
        have HBW : Hid (Below w.heap.size w w5) := Lib.hid (HB4.out.trans (HB5.out.mono HB4.out.size))
        have HAP := Lib.hid (apply_any w5 cb hf U rs rd.e rd.A ts m rd.c (HCR.out.below HB5.out) HSH.out HML.out ((HXR.out.below HBW.out).more HBW.out.size) HXT.out (HG.out.keep HBW.out (Nat.le_refl _)) (by have := HKL.out; omega) (by omega) (fun h0 ad ha hu => by
          have h5 := (HUL.out _ (Or.inl hu)).1
          obtain ⟨b0, o0, e0, h1, _⟩ := HXR.out.at h0
          rw [ha] at e0
          have : ad.block = b0 := by injection e0 with e0; rw [e0]
          omega))
        rw [HTK.out] at HAP
        unfold evA at HAP
        go_wp2_with fail
        clear x0 x1 x2 x3 x4 x5 x6 x7 x8
        refine HAP.out.mono ?_
        rintro e w9 ⟨rfl, U', hc9, hs9, hn9, hk9'⟩
        have HC9 := Lib.hid hc9
        have HN9 := Lib.hid hn9
        have HD9 : Hid (DocIn w9 A' n' c' xl V xs) := Lib.hid ((HDO.out.below HB5.out).kept hk9' (fun q hv hu => HDJ.out q hu hv))
        have HB9 : Hid (Below w.heap.size w w9) := Lib.hid (HBW.out.trans (hk9'.toBelow (B := w.heap.size) (fun i hi => (HUL.out i (Or.inl hi)).1) HBW.out.size))
        have HX9 : Hid (Blk w9 rb 51 (rdAr rd)) := Lib.hid ((HBX.out.kept (below_kept (S := fun _ => False) HB5.out (Nat.le_refl _)) (fun h => h)).kept hk9' (fun h => by have := (HUL.out _ (Or.inl h)).2; omega))
        have HZ9 : Hid (rb < w5.heap.size ∧ w5.heap.size ≤ w9.heap.size) := Lib.hid ⟨Nat.lt_of_lt_of_le HBX.out.lt HB5.out.size, hk9'.size⟩
        have HZW := Lib.hid HBW.out.size
        clear hc9 hs9 hn9 hk9' HAP HCR HDO HB5 HBX HBW
        have HNEW : Hid (FillIn w w9 cb hf ((l.take (k + 1)).map rwOf) A' n' c') := Lib.hid ⟨U', V, xs, by rw [HRS.out]; exact HC9.out, ⟨xl, HD9.out⟩, fun q hu hv => by
            rcases HN9.out q hu with h | h
            · exact HDJ.out q h hv
            · have := (HUL.out q (Or.inr hv)).2; have := HZ9.out; omega, fun q hq => by
            rcases hq with hq | hq
            · rcases HN9.out q hq with h | h
              · exact (HUL.out q (Or.inl h)).1
              · have := HZW.out; omega
            · exact (HUL.out q (Or.inr hq)).1, by rw [HRS.out, aftC, HTK.out]; exact HTT.out, HRI.out⟩
        go_wp2_with fail
        go_roundw
        case rel => exact ⟨k + 1, A', n', c', by omega, rfl, by go_num, HNEW, HB9⟩
        case measure => simp [intOf]; omega
      have hkt : decide (rd.e.kind < 11) = true := decide_eq_true hkd
      have HCB : Hid (crB rd.e = true) := Lib.hid (by unfold crB; rw [HMY.out, hkt]; rfl)
      rcases Nat.eq_zero_or_pos n' with hz | hz
      · have HTK : Hid (takesC rs rd.e = true) := Lib.hid (by
          have : rs = [] := List.eq_nil_of_length_eq_zero (by rw [HLEN.out, hz])
          unfold takesC; rw [HCB.out, this]; rfl)
        have hzi : (n' : Int) = 0 := by omega
        have hzd : ((n' : Int) == 0) = true := by simp [hzi]
        clear hz hzi
        go_wp2_with fail
        refine ⟨HSS.out _ HB5.out, ?_⟩
        repeat (first | (refine plan_on _ (by rfl) (fun W hW => by (obtain ⟨⟨x0, x1, x2, x3, x4, x5, x6, x7, x8⟩, _⟩ := hW; go_simp; try with_reducible rfl)) ?_; simp only [Act.put, List.setIfInBounds_toArray, List.set_cons_zero, List.set_cons_succ]) | (refine plan_off (by rfl) ?_; simp only [Act.put, List.setIfInBounds_toArray, List.set_cons_zero, List.set_cons_succ]))
        refine plan_turn ?_
        go_wp2_with fail
        refine ⟨HSS.out _ HB5.out, ?_⟩
        repeat (first | (refine plan_on _ (by rfl) (fun W hW => by (obtain ⟨⟨x0, x1, x2, x3, x4, x5, x6, x7, x8⟩, _⟩ := hW; go_simp; try with_reducible rfl)) ?_; simp only [Act.put, List.setIfInBounds_toArray, List.set_cons_zero, List.set_cons_succ]) | (refine plan_off (by rfl) ?_; simp only [Act.put, List.setIfInBounds_toArray, List.set_cons_zero, List.set_cons_succ]))
        refine plan_done ?_
        clear hzd
        obtain ⟨x0, x1, x2, x3, x4, x5, x6, x7, x8⟩ := (HSS.out _ HB5.out).1
        have HBW : Hid (Below w.heap.size w w5) := Lib.hid (HB4.out.trans (HB5.out.mono HB4.out.size))
        have HAP := Lib.hid (apply_any w5 cb hf U rs rd.e rd.A ts m rd.c (HCR.out.below HB5.out) HSH.out HML.out ((HXR.out.below HBW.out).more HBW.out.size) HXT.out (HG.out.keep HBW.out (Nat.le_refl _)) (by have := HKL.out; omega) (by omega) (fun h0 ad ha hu => by
          have h5 := (HUL.out _ (Or.inl hu)).1
          obtain ⟨b0, o0, e0, h1, _⟩ := HXR.out.at h0
          rw [ha] at e0
          have : ad.block = b0 := by injection e0 with e0; rw [e0]
          omega))
        rw [HTK.out] at HAP
        unfold evA at HAP
        go_wp2_with fail
        clear x0 x1 x2 x3 x4 x5 x6 x7 x8
        refine HAP.out.mono ?_
        rintro e w9 ⟨rfl, U', hc9, hs9, hn9, hk9'⟩
        have HC9 := Lib.hid hc9
        have HN9 := Lib.hid hn9
        have HD9 : Hid (DocIn w9 A' n' c' xl V xs) := Lib.hid ((HDO.out.below HB5.out).kept hk9' (fun q hv hu => HDJ.out q hu hv))
        have HB9 : Hid (Below w.heap.size w w9) := Lib.hid (HBW.out.trans (hk9'.toBelow (B := w.heap.size) (fun i hi => (HUL.out i (Or.inl hi)).1) HBW.out.size))
        have HX9 : Hid (Blk w9 rb 51 (rdAr rd)) := Lib.hid ((HBX.out.kept (below_kept (S := fun _ => False) HB5.out (Nat.le_refl _)) (fun h => h)).kept hk9' (fun h => by have := (HUL.out _ (Or.inl h)).2; omega))
        have HZ9 : Hid (rb < w5.heap.size ∧ w5.heap.size ≤ w9.heap.size) := Lib.hid ⟨Nat.lt_of_lt_of_le HBX.out.lt HB5.out.size, hk9'.size⟩
        have HZW := Lib.hid HBW.out.size
        clear hc9 hs9 hn9 hk9' HAP HCR HDO HB5 HBX HBW
        have d8 : w9.cell? ⟨rb, 8, none⟩ = some (.slice rd.A m rd.c) := by have := HX9.out.cell 8; rw [this]; simp [rdAr, HRN.out]
        go_wp2_with fail
        clear d8
        go_loopw [11, 64] (fun v i wq => ∃ (j : Nat) (A7 : Option Addr) (p c7 : Nat) (q : List ByteArray), j ≤ m ∧ p ≤ j ∧ v = .slice A7 p c7 ∧ i = .int .i64 j ∧ Hid (q.length = p ∧ NmOf (ts.take j) q) ∧ Hid (wq.ownsRow w9.heap.size 9 1 (.slice A7 p c7) p (q.map .string)) ∧ Hid (Below w9.heap.size w9 wq)) (fun _ i _ => m - (intOf i).toNat)
        case atStart => exact ⟨0, none, 0, 0, [], Nat.zero_le _, Nat.le_refl _, rfl, rfl, Lib.hid ⟨rfl, List.Pairwise.nil, fun y => by simp⟩, Lib.hid (own_nil _ _ _ _), Lib.hid (Below.refl _ _)⟩
        case round =>
          obtain ⟨j, A7, p, c7, q, hj, hpj, rfl, rfl, hqn, hrow, hbq⟩ := hrel
          obtain ⟨wq, rfl⟩ : ∃ wq : World, wq = wr := ⟨_, rfl⟩
          have HBq : Hid (Below w.heap.size w wq) := Lib.hid (HB9.out.trans (hbq.out.mono HB9.out.size))
          by_cases hjl : j < m
          · obtain ⟨t, ht⟩ : ∃ t, ts[j]? = some t := ⟨ts[j]'(by rw [HML.out]; exact hjl), List.getElem?_eq_getElem _⟩
            have HTS : Hid (ts.take (j + 1) = ts.take j ++ [t]) := Lib.hid (take_snoc ht)
            obtain ⟨gt, ot, hAt, hgt, hct⟩ := (HXR.out.below HBq.out).at (by omega)
            have t0 : wq.cell? ⟨gt, ot + j, none⟩ = some (.string t) := hct j _ (by simp [ht])
            have HNM := Lib.hid (name_any t wq (HXT.out t (List.mem_of_getElem? ht)))
            have HPU := Lib.hid (rput_any wq A7 q p c7 t w9.heap.size hqn.out.1 hrow.out hbq.out.size hqn.out.2.1 (by omega))
            have hj8 : (j : Int) < (m : Int) := by omega
            have hj9 : (0 : Int) ≤ (j : Int) := by omega
            rw [hAt]
            clear ht hct
            go_wp2_with fail
            refine HNM.out.mono ?_
            rintro e w10 ⟨rfl, rfl⟩
            cases hnm : nameB t
            · have HQ1 : Hid (q.length = p ∧ NmOf (ts.take (j + 1)) q) := Lib.hid ⟨hqn.out.1, hqn.out.2.1, fun y => by
                rw [HTS.out, hqn.out.2.2 y, List.mem_append]
                constructor
                · rintro ⟨h1, h2⟩; exact ⟨Or.inl h1, h2⟩
                · rintro ⟨h1 | h1, h2⟩
                  · exact ⟨h1, h2⟩
                  · simp at h1; subst h1; rw [hnm] at h2; cases h2⟩
              clear hnm
              go_wp2_with fail
              go_roundw
              case rel => exact ⟨j + 1, A7, p, c7, q, by omega, by omega, rfl, by go_num, HQ1, hrow, hbq⟩
              case measure => simp [intOf]; omega
            have HNT := Lib.hid hnm
            clear hnm
            go_wp2_with fail
            refine HPU.out.mono ?_
            rintro e w10 ⟨A8, c8, out, rfl, ho8, ⟨hr8, hm8⟩, hl8, hb8⟩
            obtain ⟨p8, hp8⟩ : ∃ p8, out.length = p8 := ⟨_, rfl⟩
            rw [hp8] at ho8 hl8 ⊢
            have HO8 := Lib.hid ho8
            have HB8 : Hid (Below w9.heap.size w9 w10) := Lib.hid (hbq.out.trans (hb8.mono hbq.out.size))
            have HQ1 : Hid (out.length = p8 ∧ NmOf (ts.take (j + 1)) out) := Lib.hid ⟨hp8, hr8, fun y => by
              rw [HTS.out, hm8 y, hqn.out.2.2 y, List.mem_append, List.mem_singleton]
              constructor
              · rintro (⟨h1, h2⟩ | rfl)
                · exact ⟨Or.inl h1, h2⟩
                · exact ⟨Or.inr rfl, HNT.out⟩
              · rintro ⟨h1 | h1, h2⟩
                · exact Or.inl ⟨h1, h2⟩
                · exact Or.inr h1⟩
            clear ho8 hr8 hm8 hb8 hp8 HPU HNM
            go_wp2_with fail
            go_roundw
            case rel => exact ⟨j + 1, A8, p8, c8, out, by omega, by omega, rfl, by go_num, HQ1, HO8, HB8⟩
            case measure => simp [intOf]; omega
          · obtain rfl : m = j := by omega
            have hta : ts.take m = ts := by rw [← HML.out, List.take_length]
            rw [hta] at hqn
            have HXq : Hid (Blk wq rb 51 (rdAr rd)) := Lib.hid (HX9.out.kept (below_kept (S := fun _ => False) hbq.out (Nat.le_refl _)) (fun h => h))
            obtain ⟨x0, x1, x2, x3, x4, x5, x6, x7, x8⟩ := boxr_of HXq.out HRN.out
            have HOq : Hid (wq.ownsRow 0 43 9 (.slice A' n' c') n' (xl.flatMap rdC)) := Lib.hid (HD9.out.below hbq.out).own
            have HRq : Hid (RowIn (wq.alloc (.cells (ddArr rd.e (.slice A7 p c7)) 43)) (wq.heap.size + 1) 9 (some ⟨wq.heap.size, 0, none⟩) 1 (rdC ⟨rd.e, A7, p, c7⟩)) := Lib.hid (one_dd wq rd.e A7 p c7 _)
            unfold ddArr at HRq
            clear hta
            go_wp2_with (first
              | (at_builtin; refine wpList_append_row _ rfl _ _ 27 rfl 0 43 i1 _ 9 120 Tryd.underlying27 hi1 hy0 hy1 hy2 rfl (by omega) (.slice A' n' c') n' _ rfl (HOq.out.alloc _) (wq.heap.size + 1) (some ⟨wq.heap.size, 0, none⟩) 1 1 (rdC ⟨rd.e, A7, p, c7⟩) rfl HRq.out (fun h => by cases h) (fun u hu => rdC_one [⟨rd.e, A7, p, c7⟩] u (by simpa using hu)) (by unfold maxLen; omega) (by omega) (Nat.zero_le _) ?_; intro v11 w11 ho11 hg11 hv11; obtain ⟨A9, c9, hv⟩ := own_shape ho11; subst hv; have HO11 := Lib.hid ho11; have HG11 := Lib.hid hg11; have HV11 := Lib.hid hv11; clear ho11 hg11 hv11))
            have HK11 : Hid (Kept (fun g => (Value.slice A' n' c').ownBlock = some g) wq w11) := Lib.hid (((Kept.refl _ _).alloc _).grown HG11.out (fun j hj => Or.inl hj))
            have HB11 : Hid (Below w.heap.size w w11) := Lib.hid (HBq.out.trans (HK11.out.toBelow (B := w.heap.size) (fun i hi => (HUL.out i (Or.inr (HD9.out.ub i hi))).1) HBq.out.size))
            have HNEW : Hid (FillIn w w11 cb hf ((l.take (k + 1)).map rwOf) A9 (n' + 1) c9) := Lib.hid (by
              obtain ⟨V', hd', hv'⟩ := HD9.out.more (e := rd.e) hbq.out hqn.out.1 hrow.out HK11.out HO11.out (HV11.out.imp id (fun h => ⟨_, h, by simp⟩))
              refine ⟨U', V', _, ?_, hd', fun q hu hv => ?_, fun q hq => ?_, ?_, ?_⟩
              · rw [HRS.out]
                exact HC9.out.kept ((below_kept (S := fun g => (Value.slice A' n' c').ownBlock = some g) hbq.out (Nat.le_refl _)).trans HK11.out) (fun q hu hs => by
                  have hv := HD9.out.ub q hs
                  rcases HN9.out q hu with h | h
                  · exact HDJ.out q h hv
                  · have := (HUL.out q (Or.inr hv)).2; have := HZ9.out; omega)
              · rcases hv' q hv with hv | hv
                · rcases HN9.out q hu with h | h
                  · exact HDJ.out q h hv
                  · have := (HUL.out q (Or.inr hv)).2; have := HZ9.out; omega
                · have := HC9.out.lt q hu; omega
              · rcases hq with hq | hq
                · rcases HN9.out q hq with h | h
                  · exact (HUL.out q (Or.inl h)).1
                  · have := HZW.out; omega
                · rcases hv' q hq with h | h
                  · exact (HUL.out q (Or.inr h)).1
                  · have := HB9.out.size; omega
              · rw [HRS.out, aftC, HTK.out]
                exact HTT.out.snoc (hqn.out.2.tw rd.e)
              · intro x hx
                rcases List.mem_append.1 hx with hx | hx
                · exact HRI.out x hx
                · simp at hx
                  subst hx
                  exact ⟨hqn.out.2.1, by show q.length ≤ 1000; rw [hqn.out.1]; omega⟩)
            go_roundw
            case rel => exact ⟨k + 1, A9, n' + 1, c9, by omega, rfl, by go_num, HNEW, HB11⟩
            case measure => simp [intOf]; omega
      · obtain ⟨le, hle⟩ : ∃ le, lastE rs = some le := by
          cases h : lastE rs with
          | none => have := lastE_none h; have := HLEN.out; omega
          | some le => exact ⟨le, rfl⟩
        have hzd : ((n' : Int) == 0) = false := by simp; omega
        obtain ⟨q, hq⟩ : ∃ q, n' - 1 = q := ⟨_, rfl⟩
        have HLA : Hid (∃ r, xl[q]? = some r ∧ r.e = le) := Lib.hid (by
          have h1 := hle
          rw [HTT.out.last] at h1
          unfold lastE at h1
          rw [Option.map_eq_some_iff] at h1
          obtain ⟨y, hy, rfl⟩ := h1
          rw [List.getLast?_eq_getElem?, HDO.out.len, hq] at hy
          obtain ⟨r, hr, hd⟩ := HDO.out.rel.at hy
          exact ⟨r, hr, hd.1⟩)
        obtain ⟨lr, hlr, hle2⟩ := HLA.out
        obtain ⟨g2, o2, rfl, hg2, _⟩ := rds_at (RowIn.of_own HDO.out.own) hz
        have HSC : Hid (∀ W, BoxR W rb rd m ∧ RowIn W w4.heap.size 9 (some ⟨g2, o2, none⟩) n' (xl.flatMap rdC) → BoxR W rb rd m ∧ EvAt W g2 (o2 + q * 9) le) := Lib.hid (fun W hW => by
          obtain ⟨g3, o3, he, _, hc3⟩ := rds_at hW.2 hz
          injection he with he
          injection he with hA hB
          subst hA hB
          obtain ⟨y0, y1, y2, y3, y4, y5, y6, y7, _⟩ := hc3 q lr hlr
          rw [hle2] at y0 y1 y2 y3 y4 y5 y6 y7
          exact ⟨hW.1, y0, y1, y2, y3, y4, y5, y6, y7⟩)
        have hx1 : (0 : Int) ≤ (q : Int) := by omega
        have hx2 : (q : Int) < (n' : Int) := by omega
        have hwb : IntKind.i64.wrap ((n' : Int) - 1) = (q : Int) := by rw [show (n' : Int) - 1 = (q : Int) by omega]; exact IntWalk.i64_in _ (by omega)
        have HAB := Lib.hid (above_any rd.e le w5)
        have HTKD : Hid (takesC rs rd.e = decide (cmpE rd.e le = 1)) := Lib.hid (by unfold takesC; rw [HCB.out, hle]; rfl)
        unfold evA at HAB
        clear hle hlr hle2 hq HLA
        go_wp2_with fail
        refine ⟨HSS.out _ HB5.out, ?_⟩
        repeat (first | (refine plan_on _ (by rfl) (fun W hW => by (obtain ⟨⟨x0, x1, x2, x3, x4, x5, x6, x7, x8⟩, ⟨y0, y1, y2, y3, y4, y5, y6, y7⟩⟩ := HSC.out W hW; go_simp; try with_reducible rfl)) ?_; simp only [Act.put, List.setIfInBounds_toArray, List.set_cons_zero, List.set_cons_succ]) | (refine plan_off (by rfl) ?_; simp only [Act.put, List.setIfInBounds_toArray, List.set_cons_zero, List.set_cons_succ]))
        refine plan_turn ?_
        go_wp2_with fail
        refine HAB.out.mono ?_
        rintro e w6 ⟨rfl, hb6⟩
        have HB6 : Hid (Below w4.heap.size w4 w6) := Lib.hid (HB5.out.trans (hb6.mono HB5.out.size))
        clear hb6 HAB HB5
        obtain ⟨w5, rfl⟩ : ∃ w5 : World, w5 = w6 := ⟨_, rfl⟩
        have HB5 : Hid (Below w4.heap.size w4 w5) := HB6
        clear HB6
        obtain ⟨tk, htk⟩ : ∃ tk, decide (cmpE rd.e le = 1) = tk := ⟨_, rfl⟩
        rw [htk] at HTKD ⊢
        clear htk
        cases tk
        · have HTK : Hid (takesC rs rd.e = false) := HTKD
          clear HTKD
          go_wp2_with fail
          refine ⟨HSS.out _ HB5.out, ?_⟩
          repeat (first | (refine plan_on _ (by rfl) (fun W hW => by (obtain ⟨⟨x0, x1, x2, x3, x4, x5, x6, x7, x8⟩, ⟨y0, y1, y2, y3, y4, y5, y6, y7⟩⟩ := HSC.out W hW; go_simp; try with_reducible rfl)) ?_; simp only [Act.put, List.setIfInBounds_toArray, List.set_cons_zero, List.set_cons_succ]) | (refine plan_off (by rfl) ?_; simp only [Act.put, List.setIfInBounds_toArray, List.set_cons_zero, List.set_cons_succ]))
          refine plan_done ?_
          obtain ⟨x0, x1, x2, x3, x4, x5, x6, x7, x8⟩ := (HSS.out _ HB5.out).1
          have HBW : Hid (Below w.heap.size w w5) := Lib.hid (HB4.out.trans (HB5.out.mono HB4.out.size))
          have HAP := Lib.hid (apply_any w5 cb hf U rs rd.e rd.A ts m rd.c (HCR.out.below HB5.out) HSH.out HML.out ((HXR.out.below HBW.out).more HBW.out.size) HXT.out (HG.out.keep HBW.out (Nat.le_refl _)) (by have := HKL.out; omega) (by omega) (fun h0 ad ha hu => by
            have h5 := (HUL.out _ (Or.inl hu)).1
            obtain ⟨b0, o0, e0, h1, _⟩ := HXR.out.at h0
            rw [ha] at e0
            have : ad.block = b0 := by injection e0 with e0; rw [e0]
            omega))
          rw [HTK.out] at HAP
          unfold evA at HAP
          go_wp2_with fail
          clear x0 x1 x2 x3 x4 x5 x6 x7 x8
          refine HAP.out.mono ?_
          rintro e w9 ⟨rfl, U', hc9, hs9, hn9, hk9'⟩
          have HC9 := Lib.hid hc9
          have HN9 := Lib.hid hn9
          have HD9 : Hid (DocIn w9 (some ⟨g2, o2, none⟩) n' c' xl V xs) := Lib.hid ((HDO.out.below HB5.out).kept hk9' (fun q hv hu => HDJ.out q hu hv))
          have HB9 : Hid (Below w.heap.size w w9) := Lib.hid (HBW.out.trans (hk9'.toBelow (B := w.heap.size) (fun i hi => (HUL.out i (Or.inl hi)).1) HBW.out.size))
          have HX9 : Hid (Blk w9 rb 51 (rdAr rd)) := Lib.hid ((HBX.out.kept (below_kept (S := fun _ => False) HB5.out (Nat.le_refl _)) (fun h => h)).kept hk9' (fun h => by have := (HUL.out _ (Or.inl h)).2; omega))
          have HZ9 : Hid (rb < w5.heap.size ∧ w5.heap.size ≤ w9.heap.size) := Lib.hid ⟨Nat.lt_of_lt_of_le HBX.out.lt HB5.out.size, hk9'.size⟩
          have HZW := Lib.hid HBW.out.size
          clear hc9 hs9 hn9 hk9' HAP HCR HDO HB5 HBX HBW
          have HNEW : Hid (FillIn w w9 cb hf ((l.take (k + 1)).map rwOf) (some ⟨g2, o2, none⟩) n' c') := Lib.hid ⟨U', V, xs, by rw [HRS.out]; exact HC9.out, ⟨xl, HD9.out⟩, fun q hu hv => by
              rcases HN9.out q hu with h | h
              · exact HDJ.out q h hv
              · have := (HUL.out q (Or.inr hv)).2; have := HZ9.out; omega, fun q hq => by
              rcases hq with hq | hq
              · rcases HN9.out q hq with h | h
                · exact (HUL.out q (Or.inl h)).1
                · have := HZW.out; omega
              · exact (HUL.out q (Or.inr hq)).1, by rw [HRS.out, aftC, HTK.out]; exact HTT.out, HRI.out⟩
          go_wp2_with fail
          go_roundw
          case rel => exact ⟨k + 1, (some ⟨g2, o2, none⟩), n', c', by omega, rfl, by go_num, HNEW, HB9⟩
          case measure => simp [intOf]; omega
        · have HTK : Hid (takesC rs rd.e = true) := HTKD
          clear HTKD
          go_wp2_with fail
          refine ⟨HSS.out _ HB5.out, ?_⟩
          repeat (first | (refine plan_on _ (by rfl) (fun W hW => by (obtain ⟨⟨x0, x1, x2, x3, x4, x5, x6, x7, x8⟩, ⟨y0, y1, y2, y3, y4, y5, y6, y7⟩⟩ := HSC.out W hW; go_simp; try with_reducible rfl)) ?_; simp only [Act.put, List.setIfInBounds_toArray, List.set_cons_zero, List.set_cons_succ]) | (refine plan_off (by rfl) ?_; simp only [Act.put, List.setIfInBounds_toArray, List.set_cons_zero, List.set_cons_succ]))
          refine plan_done ?_
          obtain ⟨x0, x1, x2, x3, x4, x5, x6, x7, x8⟩ := (HSS.out _ HB5.out).1
          have HBW : Hid (Below w.heap.size w w5) := Lib.hid (HB4.out.trans (HB5.out.mono HB4.out.size))
          have HAP := Lib.hid (apply_any w5 cb hf U rs rd.e rd.A ts m rd.c (HCR.out.below HB5.out) HSH.out HML.out ((HXR.out.below HBW.out).more HBW.out.size) HXT.out (HG.out.keep HBW.out (Nat.le_refl _)) (by have := HKL.out; omega) (by omega) (fun h0 ad ha hu => by
            have h5 := (HUL.out _ (Or.inl hu)).1
            obtain ⟨b0, o0, e0, h1, _⟩ := HXR.out.at h0
            rw [ha] at e0
            have : ad.block = b0 := by injection e0 with e0; rw [e0]
            omega))
          rw [HTK.out] at HAP
          unfold evA at HAP
          go_wp2_with fail
          clear x0 x1 x2 x3 x4 x5 x6 x7 x8
          refine HAP.out.mono ?_
          rintro e w9 ⟨rfl, U', hc9, hs9, hn9, hk9'⟩
          have HC9 := Lib.hid hc9
          have HN9 := Lib.hid hn9
          have HD9 : Hid (DocIn w9 (some ⟨g2, o2, none⟩) n' c' xl V xs) := Lib.hid ((HDO.out.below HB5.out).kept hk9' (fun q hv hu => HDJ.out q hu hv))
          have HB9 : Hid (Below w.heap.size w w9) := Lib.hid (HBW.out.trans (hk9'.toBelow (B := w.heap.size) (fun i hi => (HUL.out i (Or.inl hi)).1) HBW.out.size))
          have HX9 : Hid (Blk w9 rb 51 (rdAr rd)) := Lib.hid ((HBX.out.kept (below_kept (S := fun _ => False) HB5.out (Nat.le_refl _)) (fun h => h)).kept hk9' (fun h => by have := (HUL.out _ (Or.inl h)).2; omega))
          have HZ9 : Hid (rb < w5.heap.size ∧ w5.heap.size ≤ w9.heap.size) := Lib.hid ⟨Nat.lt_of_lt_of_le HBX.out.lt HB5.out.size, hk9'.size⟩
          have HZW := Lib.hid HBW.out.size
          clear hc9 hs9 hn9 hk9' HAP HCR HDO HB5 HBX HBW
          have d8 : w9.cell? ⟨rb, 8, none⟩ = some (.slice rd.A m rd.c) := by have := HX9.out.cell 8; rw [this]; simp [rdAr, HRN.out]
          go_wp2_with fail
          clear d8
          go_loopw [11, 64] (fun v i wq => ∃ (j : Nat) (A7 : Option Addr) (p c7 : Nat) (q : List ByteArray), j ≤ m ∧ p ≤ j ∧ v = .slice A7 p c7 ∧ i = .int .i64 j ∧ Hid (q.length = p ∧ NmOf (ts.take j) q) ∧ Hid (wq.ownsRow w9.heap.size 9 1 (.slice A7 p c7) p (q.map .string)) ∧ Hid (Below w9.heap.size w9 wq)) (fun _ i _ => m - (intOf i).toNat)
          case atStart => exact ⟨0, none, 0, 0, [], Nat.zero_le _, Nat.le_refl _, rfl, rfl, Lib.hid ⟨rfl, List.Pairwise.nil, fun y => by simp⟩, Lib.hid (own_nil _ _ _ _), Lib.hid (Below.refl _ _)⟩
          case round =>
            obtain ⟨j, A7, p, c7, q, hj, hpj, rfl, rfl, hqn, hrow, hbq⟩ := hrel
            obtain ⟨wq, rfl⟩ : ∃ wq : World, wq = wr := ⟨_, rfl⟩
            have HBq : Hid (Below w.heap.size w wq) := Lib.hid (HB9.out.trans (hbq.out.mono HB9.out.size))
            by_cases hjl : j < m
            · obtain ⟨t, ht⟩ : ∃ t, ts[j]? = some t := ⟨ts[j]'(by rw [HML.out]; exact hjl), List.getElem?_eq_getElem _⟩
              have HTS : Hid (ts.take (j + 1) = ts.take j ++ [t]) := Lib.hid (take_snoc ht)
              obtain ⟨gt, ot, hAt, hgt, hct⟩ := (HXR.out.below HBq.out).at (by omega)
              have t0 : wq.cell? ⟨gt, ot + j, none⟩ = some (.string t) := hct j _ (by simp [ht])
              have HNM := Lib.hid (name_any t wq (HXT.out t (List.mem_of_getElem? ht)))
              have HPU := Lib.hid (rput_any wq A7 q p c7 t w9.heap.size hqn.out.1 hrow.out hbq.out.size hqn.out.2.1 (by omega))
              have hj8 : (j : Int) < (m : Int) := by omega
              have hj9 : (0 : Int) ≤ (j : Int) := by omega
              rw [hAt]
              clear ht hct
              go_wp2_with fail
              refine HNM.out.mono ?_
              rintro e w10 ⟨rfl, rfl⟩
              cases hnm : nameB t
              · have HQ1 : Hid (q.length = p ∧ NmOf (ts.take (j + 1)) q) := Lib.hid ⟨hqn.out.1, hqn.out.2.1, fun y => by
                  rw [HTS.out, hqn.out.2.2 y, List.mem_append]
                  constructor
                  · rintro ⟨h1, h2⟩; exact ⟨Or.inl h1, h2⟩
                  · rintro ⟨h1 | h1, h2⟩
                    · exact ⟨h1, h2⟩
                    · simp at h1; subst h1; rw [hnm] at h2; cases h2⟩
                clear hnm
                go_wp2_with fail
                go_roundw
                case rel => exact ⟨j + 1, A7, p, c7, q, by omega, by omega, rfl, by go_num, HQ1, hrow, hbq⟩
                case measure => simp [intOf]; omega
              have HNT := Lib.hid hnm
              clear hnm
              go_wp2_with fail
              refine HPU.out.mono ?_
              rintro e w10 ⟨A8, c8, out, rfl, ho8, ⟨hr8, hm8⟩, hl8, hb8⟩
              obtain ⟨p8, hp8⟩ : ∃ p8, out.length = p8 := ⟨_, rfl⟩
              rw [hp8] at ho8 hl8 ⊢
              have HO8 := Lib.hid ho8
              have HB8 : Hid (Below w9.heap.size w9 w10) := Lib.hid (hbq.out.trans (hb8.mono hbq.out.size))
              have HQ1 : Hid (out.length = p8 ∧ NmOf (ts.take (j + 1)) out) := Lib.hid ⟨hp8, hr8, fun y => by
                rw [HTS.out, hm8 y, hqn.out.2.2 y, List.mem_append, List.mem_singleton]
                constructor
                · rintro (⟨h1, h2⟩ | rfl)
                  · exact ⟨Or.inl h1, h2⟩
                  · exact ⟨Or.inr rfl, HNT.out⟩
                · rintro ⟨h1 | h1, h2⟩
                  · exact Or.inl ⟨h1, h2⟩
                  · exact Or.inr h1⟩
              clear ho8 hr8 hm8 hb8 hp8 HPU HNM
              go_wp2_with fail
              go_roundw
              case rel => exact ⟨j + 1, A8, p8, c8, out, by omega, by omega, rfl, by go_num, HQ1, HO8, HB8⟩
              case measure => simp [intOf]; omega
            · obtain rfl : m = j := by omega
              have hta : ts.take m = ts := by rw [← HML.out, List.take_length]
              rw [hta] at hqn
              have HXq : Hid (Blk wq rb 51 (rdAr rd)) := Lib.hid (HX9.out.kept (below_kept (S := fun _ => False) hbq.out (Nat.le_refl _)) (fun h => h))
              obtain ⟨x0, x1, x2, x3, x4, x5, x6, x7, x8⟩ := boxr_of HXq.out HRN.out
              have HOq : Hid (wq.ownsRow 0 43 9 (.slice (some ⟨g2, o2, none⟩) n' c') n' (xl.flatMap rdC)) := Lib.hid (HD9.out.below hbq.out).own
              have HRq : Hid (RowIn (wq.alloc (.cells (ddArr rd.e (.slice A7 p c7)) 43)) (wq.heap.size + 1) 9 (some ⟨wq.heap.size, 0, none⟩) 1 (rdC ⟨rd.e, A7, p, c7⟩)) := Lib.hid (one_dd wq rd.e A7 p c7 _)
              unfold ddArr at HRq
              clear hta
              go_wp2_with (first
                | (at_builtin; refine wpList_append_row _ rfl _ _ 27 rfl 0 43 i1 _ 9 120 Tryd.underlying27 hi1 hy0 hy1 hy2 rfl (by omega) (.slice (some ⟨g2, o2, none⟩) n' c') n' _ rfl (HOq.out.alloc _) (wq.heap.size + 1) (some ⟨wq.heap.size, 0, none⟩) 1 1 (rdC ⟨rd.e, A7, p, c7⟩) rfl HRq.out (fun h => by cases h) (fun u hu => rdC_one [⟨rd.e, A7, p, c7⟩] u (by simpa using hu)) (by unfold maxLen; omega) (by omega) (Nat.zero_le _) ?_; intro v11 w11 ho11 hg11 hv11; obtain ⟨A9, c9, hv⟩ := own_shape ho11; subst hv; have HO11 := Lib.hid ho11; have HG11 := Lib.hid hg11; have HV11 := Lib.hid hv11; clear ho11 hg11 hv11))
              have HK11 : Hid (Kept (fun g => (Value.slice (some ⟨g2, o2, none⟩) n' c').ownBlock = some g) wq w11) := Lib.hid (((Kept.refl _ _).alloc _).grown HG11.out (fun j hj => Or.inl hj))
              have HB11 : Hid (Below w.heap.size w w11) := Lib.hid (HBq.out.trans (HK11.out.toBelow (B := w.heap.size) (fun i hi => (HUL.out i (Or.inr (HD9.out.ub i hi))).1) HBq.out.size))
              have HNEW : Hid (FillIn w w11 cb hf ((l.take (k + 1)).map rwOf) A9 (n' + 1) c9) := Lib.hid (by
                obtain ⟨V', hd', hv'⟩ := HD9.out.more (e := rd.e) hbq.out hqn.out.1 hrow.out HK11.out HO11.out (HV11.out.imp id (fun h => ⟨_, h, by simp⟩))
                refine ⟨U', V', _, ?_, hd', fun q hu hv => ?_, fun q hq => ?_, ?_, ?_⟩
                · rw [HRS.out]
                  exact HC9.out.kept ((below_kept (S := fun g => (Value.slice (some ⟨g2, o2, none⟩) n' c').ownBlock = some g) hbq.out (Nat.le_refl _)).trans HK11.out) (fun q hu hs => by
                    have hv := HD9.out.ub q hs
                    rcases HN9.out q hu with h | h
                    · exact HDJ.out q h hv
                    · have := (HUL.out q (Or.inr hv)).2; have := HZ9.out; omega)
                · rcases hv' q hv with hv | hv
                  · rcases HN9.out q hu with h | h
                    · exact HDJ.out q h hv
                    · have := (HUL.out q (Or.inr hv)).2; have := HZ9.out; omega
                  · have := HC9.out.lt q hu; omega
                · rcases hq with hq | hq
                  · rcases HN9.out q hq with h | h
                    · exact (HUL.out q (Or.inl h)).1
                    · have := HZW.out; omega
                  · rcases hv' q hq with h | h
                    · exact (HUL.out q (Or.inr h)).1
                    · have := HB9.out.size; omega
                · rw [HRS.out, aftC, HTK.out]
                  exact HTT.out.snoc (hqn.out.2.tw rd.e)
                · intro x hx
                  rcases List.mem_append.1 hx with hx | hx
                  · exact HRI.out x hx
                  · simp at hx
                    subst hx
                    exact ⟨hqn.out.2.1, by show q.length ≤ 1000; rw [hqn.out.1]; omega⟩)
              go_roundw
              case rel => exact ⟨k + 1, A9, n' + 1, c9, by omega, rfl, by go_num, HNEW, HB11⟩
              case measure => simp [intOf]; omega
    · obtain rfl : n = k := by omega
      have hta : l.take n = l := by rw [← HN.out, List.take_length]
      rw [hta] at hfi
      go_wp2_with fail
      go_ret2
      exact ⟨cb, A', n', c', rfl, hfi.out, hbw.out⟩

end Go.Proofs.YtnkglbiakjnfjaaDoor
