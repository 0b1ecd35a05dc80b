/- Taste. -/
import Derived.Test.YtnkglbiakjnfjaaDoorCrWgt
import Derived.Test.YtnkglbiakjnfjaaDoorSrtC
import Derived.Test.YtnkglbiakjnfjaaDoorCrApply
namespace Go.Proofs.YtnkglbiakjnfjaaDoor
open Go.Shelf Go.RowKit Go.Maps
set_option linter.unusedVariables false

theorem zeroI64 (w : World) : (zeroValue 2).run Tryd.prog w = .ok (.int .i64 0) w := Tryd.zeroValue2 w
def rdAr (r : Rd) : Array Value := #[.string r.e.src, .int .i64 r.e.num, .int .i64 r.e.tick, .int .i64 r.e.kind, .string r.e.person, .string r.e.item, .int .i64 r.e.value, .string r.e.text, .slice r.A r.n r.c]
theorem one_ct (w : World) (s : ByteArray) (z : Int) (t : TypeId) : RowIn (w.alloc (.cells #[.string s, .int .i64 z] t)) (w.heap.size + 1) 2 (some ⟨w.heap.size, 0, none⟩) 1 (ctC ⟨s, z⟩) := by
  refine ⟨rfl, Or.inr ⟨w.heap.size, 0, rfl, by omega, fun j u hu => ?_⟩⟩
  rw [(Blk.new w t _).cell]
  rw [← hu, Nat.zero_add]
  simp [ctC]
/-- A deed lies at off in block b. -/
def RdAt (w : World) (b off : Nat) (r : Rd) : Prop := w.cell? ⟨b, off, none⟩ = some (.string r.e.src) ∧ w.cell? ⟨b, off + 1, none⟩ = some (.int .i64 r.e.num) ∧ w.cell? ⟨b, off + 2, none⟩ = some (.int .i64 r.e.tick) ∧ w.cell? ⟨b, off + 3, none⟩ = some (.int .i64 r.e.kind) ∧ w.cell? ⟨b, off + 4, none⟩ = some (.string r.e.person) ∧ w.cell? ⟨b, off + 5, none⟩ = some (.string r.e.item) ∧ w.cell? ⟨b, off + 6, none⟩ = some (.int .i64 r.e.value) ∧ w.cell? ⟨b, off + 7, none⟩ = some (.string r.e.text) ∧ w.cell? ⟨b, off + 8, none⟩ = some (.slice r.A r.n r.c)
theorem RdAt.keep {w w' : World} {b off : Nat} {r : Rd} (h : RdAt w b off r) (hk : ∀ j, w'.cell? ⟨b, j, none⟩ = w.cell? ⟨b, j, none⟩) : RdAt w' b off r := by
  obtain ⟨h0, h1, h2, h3, h4, h5, h6, h7, h8⟩ := h
  exact ⟨(hk _).trans h0, (hk _).trans h1, (hk _).trans h2, (hk _).trans h3, (hk _).trans h4, (hk _).trans h5, (hk _).trans h6, (hk _).trans h7, (hk _).trans h8⟩
theorem rds_at {w : World} {B : Nat} {A : Option Addr} {n : Nat} {l : List Rd} (h : RowIn w B 9 A n (l.flatMap rdC)) (hn : 0 < n) : ∃ b off, A = some ⟨b, off, none⟩ ∧ b < B ∧ ∀ i x, l[i]? = some x → RdAt w b (off + i * 9) x := by
  obtain ⟨b, off, hA, hb, hc⟩ := h.at hn
  refine ⟨b, off, hA, hb, fun i x hx => ?_⟩
  have g := fun j (hj : j < 9) => flat_get rdC 9 rdC_len l i j x hx hj
  have k := fun j (hj : j < 9) u (hu : (rdC x)[j]? = some u) => hc (i * 9 + j) u ((g j hj).trans hu)
  simp only [← Nat.add_assoc] at k
  exact ⟨k 0 (by omega) _ rfl, k 1 (by omega) _ rfl, k 2 (by omega) _ rfl, k 3 (by omega) _ rfl, k 4 (by omega) _ rfl, k 5 (by omega) _ rfl, k 6 (by omega) _ rfl, k 7 (by omega) _ rfl, k 8 (by omega) _ rfl⟩
/-- How far the counts are: those that have come. -/
def CtTo (s : Sk) (left : Lit → Bool) (out : List Ct) : Prop := (out.map (·.key)).Nodup ∧ ∀ c, c ∈ out ↔ 0 < c.n ∧ s.K c.key = true ∧ c.n = s.S c.key ∧ left (.string c.key.data.toList) = false
theorem CtTo.start (s : Sk) : CtTo s (fun kl => (mapG (skG s) kl).isSome) [] := by
  refine ⟨List.nodup_nil, fun c => ⟨fun h => (by cases h), fun h => ?_⟩⟩
  obtain ⟨_, h1, _, h3⟩ := h
  dsimp only at h3
  rw [mapG_at] at h3
  unfold skG at h3
  rw [h1] at h3
  cases h3
theorem CtTo.next {s : Sk} {left : Lit → Bool} {out : List Ct} (h : CtTo s left out) {x : ByteArray} (hl : left (.string x.data.toList) = true) (hk : s.K x = true) :
    (0 < s.S x → CtTo s (fun z => left z && !z.sameKey (.string x.data.toList)) (out ++ [⟨x, s.S x⟩])) ∧ (¬ 0 < s.S x → CtTo s (fun z => left z && !z.sameKey (.string x.data.toList)) out) := by
  have hoff : ∀ c ∈ out, c.key ≠ x := fun c hc e => by
    have := ((h.2 c).1 hc).2.2.2
    rw [e, hl] at this
    cases this
  refine ⟨fun hp => ⟨?_, fun c => ?_⟩, fun hp => ⟨h.1, fun c => ?_⟩⟩
  · rw [List.map_append, List.nodup_append]
    refine ⟨h.1, by simp, fun a ha b hb e => ?_⟩
    obtain ⟨c, hc, rfl⟩ := List.mem_map.1 ha
    simp at hb
    exact hoff c hc (e.trans hb)
  · dsimp only
    rw [List.mem_append, List.mem_singleton, h.2, str_same]
    by_cases e : c.key = x
    · rw [decide_eq_true e]
      simp only [Bool.not_true, Bool.and_false]
      constructor
      · rintro (⟨_, _, _, h4⟩ | rfl)
        · rw [e, hl] at h4; cases h4
        · exact ⟨hp, hk, rfl, trivial⟩
      · rintro ⟨h1, h2, h3, _⟩
        refine Or.inr ?_
        cases c
        simp only at e h3
        subst e
        rw [h3]
    · rw [decide_eq_false e]
      simp only [Bool.not_false, Bool.and_true]
      constructor
      · rintro (h1 | rfl)
        · exact h1
        · exact absurd rfl e
      · exact Or.inl
  · dsimp only
    rw [h.2, str_same]
    by_cases e : c.key = x
    · rw [decide_eq_true e]
      simp only [Bool.not_true, Bool.and_false]
      constructor
      · rintro ⟨_, _, _, h4⟩
        rw [e, hl] at h4; cases h4
      · rintro ⟨h1, _, h3, _⟩
        rw [h3, e] at h1
        exact absurd h1 hp
    · rw [decide_eq_false e]
      simp only [Bool.not_false, Bool.and_true]

set_option maxHeartbeats 16000000 in
set_option maxRecDepth 100000 in
theorem taste_any (w : World) (cb : Nat) (half : Int) (U : Nat → Prop) (rs : List Rw) (p : ByteArray) (now : Int) (h : CrAt w cb half U rs) (hp : p.size ≤ maxLen) (hh1 : 1 ≤ half) (hh2 : half ≤ 1099511627776) (hb : rs.length ≤ 1000) (hw1 : -4398046511104 ≤ now) (hw2 : now ≤ 4398046511104) :
    Calls Tryd.prog 15 #[.pointer (some ⟨cb, 0, none⟩), .string p, .int .i64 now] w fun e w' => ∃ (A : Option Addr) (c : Nat) (L : List Ct), e = .returned (.slice A L.length c) ∧ IsTaste rs half p now L ∧ L.length ≤ 1000000 ∧ RowIn w' w'.heap.size 2 A L.length (L.flatMap ctC) ∧ Below w.heap.size w w' := by
  obtain ⟨b, last, G, R, h⟩ := h
  have HI := Lib.hid h
  obtain ⟨A5, c5, hgr, how, hold⟩ := h.ppl.row p
  have HREL := Lib.hid (h.rel p)
  have HMAY : Hid (∀ r ∈ ownC rs p, mayB r.e = true) := Lib.hid (fun r hr => by
    have := h.may r (ownC_mem.1 hr).1
    unfold crB at this
    rw [Bool.and_eq_true] at this
    exact this.1)
  have HTN : Hid (∀ r ∈ ownC rs p, r.ts.length ≤ 1000) := Lib.hid (fun r hr => h.tn r (ownC_mem.1 hr).1)
  have HTG : Hid (∀ r ∈ ownC rs p, ∀ t ∈ r.ts, nameB t = true) := Lib.hid (fun r hr => h.tg r (ownC_mem.1 hr).1)
  have hol : (ownC rs p).length ≤ 1000 := Nat.le_trans (ownC_len rs p) hb
  obtain ⟨l, hl⟩ : ∃ l, ownC rs p = l := ⟨_, rfl⟩
  obtain ⟨rl, hrl⟩ : ∃ rl, R p = rl := ⟨_, rfl⟩
  rw [hl] at HREL HMAY HTN HTG hol
  rw [hrl] at hgr how hold HREL
  have HIT : Hid (∀ L, IsTaste rs half p now L ↔ L.Pairwise (fun x y => cmpCI x y < 0) ∧ ∀ x, x ∈ L ↔ 0 < x.n ∧ x.n = (skL half now l).S x.key) := Lib.hid (fun L => by unfold IsTaste; rw [hl])
  obtain ⟨N, hN⟩ : ∃ N, rl.length = N := ⟨_, rfl⟩
  have HN := Lib.hid hN
  have HNL : Hid (l.length = N) := Lib.hid (by rw [← hN, HREL.out.1])
  rw [HNL.out] at hol
  rw [hN] at hgr how hold
  have HRO := Lib.hid (RowIn.of_own how)
  have HGR := Lib.hid hgr
  have HMP := Lib.hid h.ppl.map
  obtain ⟨w1, hw1e⟩ : ∃ w1, w.alloc (.map #[] 0) = w1 := ⟨_, rfl⟩
  have HB1 : Hid (Below w.heap.size w w1) := Lib.hid (by rw [← hw1e]; exact (Below.refl _ _).alloc (Nat.le_refl _) _)
  have HM1 : Hid (MapIs Tryd.prog 9 okInt w1 w.heap.size 0 (mapG (skG (skL half now (l.take 0))))) := Lib.hid ((by rw [← hw1e]; exact MapIs.made w Tryd.prog 9 okInt : MapIs Tryd.prog 9 okInt w1 w.heap.size 0 (fun _ => none)).congr (fun kl => by cases kl <;> rfl))
  have hmm := @run_makeMap Tryd.prog
  have HC1 : Hid (∀ W, Below w.heap.size w W → Blk W cb 80 (crCells half rs.length last b)) := Lib.hid (fun W hW => HI.out.blk.kept (below_kept (S := fun _ => False) hW (Nat.le_refl _)) (fun h => h))
  have c10 : w1.cell? ⟨cb, 10, none⟩ = some (.map (some b.pb)) := (HC1.out w1 HB1.out).cell 10
  have HPM1 : Hid (MapIs Tryd.prog 9 okSl w1 b.pb rs.length (mapG G)) := Lib.hid (HMP.out.kept (below_kept (S := fun _ => False) HB1.out (Nat.le_refl _)) (fun h => h))
  have HGV : Hid ((mapG G (.string p.data.toList)).getD (.slice none 0 0) = .slice A5 N c5) := Lib.hid (by rw [mapG_at]; exact HGR.out)
  have HZ : Hid (w.heap.size < w1.heap.size) := Lib.hid (by rw [← hw1e]; simp)
  clear h how hold hgr hl hrl hN
  go_enter Tryd.func15, Tryd.ntmps15
  go_wp2_with (first
    | (at_lookup; refine wpList_lookM _ rfl _ _ 75 rfl 9 74 (string_keyed Tryd.underlying9) Tryd.underlying75 okSl _ (zeroDds _) rfl b.pb _ _ rfl HPM1.out _ _ rfl (WideMaps.keyOf_string_mk Tryd.underlying9 hp) _ HGV.out ?_)
    | fail)
  clear hw1e hmm c10
  go_loopw [24] (fun i wr => ∃ k : Nat, k ≤ N ∧ i = .int .i64 k ∧ Hid (MapIs Tryd.prog 9 okInt wr w.heap.size (k * 1000) (mapG (skG (skL half now (l.take k))))) ∧ Hid (SkOk (skL half now (l.take k)) (k * 1000)) ∧ Hid (Below w.heap.size w wr)) (fun i _ => N - (intOf i).toNat)
  case atStart => exact ⟨0, Nat.zero_le _, rfl, Lib.hid (by simpa using HM1.out), Lib.hid SkOk.zero, HB1⟩
  case round =>
    clear HM1 HB1 HPM1 HGV
    obtain ⟨k, hk, rfl, hmap, hsk, hbw⟩ := hrel
    by_cases hlt : k < N
    · obtain ⟨x, hx⟩ : ∃ x, l[k]? = some x := ⟨l[k]'(by rw [HNL.out]; exact hlt), List.getElem?_eq_getElem _⟩
      obtain ⟨rd, hrd, hdd⟩ := HREL.out.at hx
      obtain ⟨g, o, rfl, hgB, hcl⟩ := rds_at HRO.out (by omega)
      obtain ⟨e0, e1, e2, e3, e4, e5, e6, e7, e8⟩ : RdAt wr g (o + k * 9) rd := (hcl k rd hrd).keep (fun j => hbw.out.cell (p := ⟨g, j, none⟩) hgB)
      have HTK : Hid (skL half now (l.take (k + 1)) = skR half now (skL half now (l.take k)) x) := Lib.hid (by rw [take_snoc hx, skL_snoc])
      have HMX := Lib.hid (HMAY.out x (List.mem_of_getElem? hx))
      have HTX := Lib.hid (HTN.out x (List.mem_of_getElem? hx))
      have HGX := Lib.hid (HTG.out x (List.mem_of_getElem? hx))
      have HDE : Hid (rd.e = x.e) := Lib.hid hdd.1
      have HTA : Hid (TgAt w rd x.ts) := Lib.hid hdd.2
      have hk8 : (k : Int) < (N : Int) := by omega
      have hk9 : (0 : Int) ≤ (k : Int) := by omega
      have hwz := hbw.out.size
      obtain ⟨w3, hw3⟩ : ∃ w3, wr.alloc (.cells (rdAr rd) 82) = w3 := ⟨_, rfl⟩
      have HBX : Hid (Blk w3 wr.heap.size 82 (rdAr rd)) := Lib.hid (by rw [← hw3]; exact Blk.new _ _ _)
      have HB3 : Hid (Below w.heap.size w w3) := Lib.hid (by rw [← hw3]; exact hbw.out.alloc hwz _)
      have HM3 : Hid (MapIs Tryd.prog 9 okInt w3 w.heap.size (k * 1000) (mapG (skG (skL half now (l.take k))))) := Lib.hid (by rw [← hw3]; exact hmap.out.alloc _)
      have d2 : w3.cell? ⟨wr.heap.size, 2, none⟩ = some (.int .i64 rd.e.tick) := HBX.out.cell 2
      obtain ⟨tb1, tb2⟩ : 0 ≤ rd.e.tick ∧ rd.e.tick ≤ 1099511627776 := by rw [HDE.out]; exact may_tick HMX.out
      unfold rdAr at hw3
      clear hcl hx hrd hdd hmap
      obtain ⟨s0, hs0⟩ : ∃ s0, skL half now (l.take k) = s0 := ⟨_, rfl⟩
      rw [hs0] at HTK HM3 hsk
      by_cases hlate : now < rd.e.tick
      · have HS1 : Hid (skL half now (l.take (k + 1)) = s0) := Lib.hid (by rw [HTK.out]; unfold skR; rw [if_neg (by rw [← HDE.out]; omega)])
        clear hs0
        go_wp2_with fail
        go_roundw
        case rel => exact ⟨k + 1, by omega, by go_num, Lib.hid (by rw [HS1.out]; exact HM3.out.mono (by omega)), Lib.hid (by rw [HS1.out]; exact hsk.out.mono (by omega)), HB3⟩
        case measure => simp [intOf]; omega
      have dlate : decide (now < rd.e.tick) = false := decide_eq_false hlate
      obtain ⟨eb, heb⟩ : ∃ eb, wr.heap.size = eb := ⟨_, rfl⟩
      have HEB := Lib.hid heb
      have HSC : Hid (∀ W, Below w3.heap.size w3 W → RdAt W wr.heap.size 0 rd ∧ World.cell? W ⟨cb, 0, none⟩ = some (.int .i64 half)) := Lib.hid (fun W hW => by
        have e1 := HBX.out.kept (below_kept (S := fun _ => False) hW (Nat.le_refl _)) (fun h => h)
        exact ⟨⟨e1.cell 0, e1.cell 1, e1.cell 2, e1.cell 3, e1.cell 4, e1.cell 5, e1.cell 6, e1.cell 7, e1.cell 8⟩, (HC1.out W (HB3.out.trans (hW.mono HB3.out.size))).cell 0⟩)
      have HWO := Lib.hid (worth_any rd.e w3.drew)
      have HWG : Hid (∀ W, Calls Tryd.prog 42 #[.int .i64 (now - rd.e.tick), .int .i64 half] W fun e w' => e = .returned (.int .i64 (wgtP (now - rd.e.tick) half)) ∧ W = w') := Lib.hid (fun W => weight_any (now - rd.e.tick) half W hh1 hh2 (by omega) (by omega))
      have HNB : Hid (0 ≤ worthP rd.e * wgtP (now - rd.e.tick) half ∧ worthP rd.e * wgtP (now - rd.e.tick) half ≤ 5242880) := Lib.hid (mul_bd (worth_bd (by rw [HDE.out]; exact HMX.out)) (wgt_bd _ _))
      have HS1 : Hid (skL half now (l.take (k + 1)) = x.ts.foldl (skT (worthP rd.e * wgtP (now - rd.e.tick) half)) s0) := Lib.hid (by rw [HTK.out]; unfold skR rowW; rw [if_pos (by rw [← HDE.out]; omega), HDE.out])
      have hwsub : IntKind.i64.wrap (now - rd.e.tick) = now - rd.e.tick := IntWalk.i64_in _ (by omega)
      have HS0 : Hid (Below w3.heap.size w3 w3.drew) := Lib.hid (below_drew (Below.refl _ _))
      unfold evA at HWO
      obtain ⟨wv, hwv⟩ : ∃ wv, worthP rd.e = wv := ⟨_, rfl⟩
      obtain ⟨gv, hgv⟩ : ∃ gv, wgtP (now - rd.e.tick) half = gv := ⟨_, rfl⟩
      rw [hwv] at HWO HNB HS1
      rw [hgv] at HWG HNB HS1
      obtain ⟨nv, hnv⟩ : ∃ nv, wv * gv = nv := ⟨_, rfl⟩
      rw [hnv] at HNB HS1
      obtain ⟨nb1, nb2⟩ := HNB.out
      have hwmul : IntKind.i64.wrap (wv * gv) = nv := by rw [hnv]; exact IntWalk.i64_in _ (by omega)
      clear hwv hgv hnv heb hs0
      go_wp2_with fail
      refine wp_plan (fun W => Below w3.heap.size w3 W) [(0, false), (1, false), (3, false), (4, false), (5, false), (6, false), (7, false), (8, false), (9, false), (10, false), (11, false), (2, true), (12, true), (13, false), (14, false)] (by kernel_rfl) (by kernel_rfl) HS0.out ?_
      simp only [planL, List.getElem?_cons_zero, List.getElem?_cons_succ]
      repeat (first | (refine plan_on _ (by rfl) (fun W hW => by (obtain ⟨⟨x0, x1, x2, x3, x4, x5, x6, x7, x8⟩, x9⟩ := HSC.out W hW; go_simp; try with_reducible rfl)) ?_; simp only [Act.put, List.setIfInBounds_toArray, List.set_cons_zero, List.set_cons_succ]) | (refine plan_off (by rfl) ?_; simp only [Act.put, List.setIfInBounds_toArray, List.set_cons_zero, List.set_cons_succ]))
      refine plan_turn ?_
      go_wp2_with fail
      refine HWO.out.mono ?_
      rintro e w4 ⟨rfl, hb4⟩
      have HB34 : Hid (Below w3.heap.size w3 w4) := Lib.hid (HS0.out.trans hb4)
      clear hb4 HWO
      go_wp2_with fail
      refine ⟨HB34.out, ?_⟩
      repeat (first | (refine plan_on _ (by rfl) (fun W hW => by (obtain ⟨⟨x0, x1, x2, x3, x4, x5, x6, x7, x8⟩, x9⟩ := HSC.out W hW; go_simp; try with_reducible rfl)) ?_; simp only [Act.put, List.setIfInBounds_toArray, List.set_cons_zero, List.set_cons_succ]) | (refine plan_off (by rfl) ?_; simp only [Act.put, List.setIfInBounds_toArray, List.set_cons_zero, List.set_cons_succ]))
      refine plan_turn ?_
      go_wp2_with fail
      refine (HWG.out _).mono ?_
      rintro e w5 ⟨rfl, rfl⟩
      go_wp2_with fail
      refine ⟨HB34.out, ?_⟩
      repeat (first | (refine plan_on _ (by rfl) (fun W hW => by (obtain ⟨⟨x0, x1, x2, x3, x4, x5, x6, x7, x8⟩, x9⟩ := HSC.out W hW; go_simp; try with_reducible rfl)) ?_; simp only [Act.put, List.setIfInBounds_toArray, List.set_cons_zero, List.set_cons_succ]) | (refine plan_off (by rfl) ?_; simp only [Act.put, List.setIfInBounds_toArray, List.set_cons_zero, List.set_cons_succ]))
      refine plan_done ?_
      have HB4 : Hid (Below w.heap.size w w4) := Lib.hid (HB3.out.trans (HB34.out.mono HB3.out.size))
      have HM4 : Hid (MapIs Tryd.prog 9 okInt w4 w.heap.size (k * 1000) (mapG (skG s0))) := Lib.hid (HM3.out.kept (below_kept (S := fun _ => False) HB34.out (Nat.le_refl _)) (fun h => h))
      have f8 : w4.cell? ⟨wr.heap.size, 8, none⟩ = some (.slice rd.A rd.n rd.c) := (HSC.out w4 HB34.out).1.2.2.2.2.2.2.2.2
      have HTR : Hid (RowIn w w.heap.size 1 rd.A rd.n (x.ts.map .string)) := Lib.hid (RowIn.of_own HTA.out.2)
      obtain ⟨m, hm⟩ : ∃ m, rd.n = m := ⟨_, rfl⟩
      rw [hm] at f8 HTR
      obtain ⟨Ar, hAr⟩ : ∃ Ar, rd.A = Ar := ⟨_, rfl⟩
      rw [hAr] at f8 HTR
      have HML : Hid (x.ts.length = m) := Lib.hid (by rw [← hm, HTA.out.1])
      have hml : m ≤ 1000 := by rw [← HML.out]; exact HTX.out
      clear hm hAr e0 e1 e2 e3 e4 e5 e6 e7 e8 d2 hwmul hwsub dlate hw3 HWG HSC hbw hlate HBX HM3 HB3 HB34 HS0 HTK
      go_wp2_with fail
      go_loopw [50] (fun i wq => ∃ j : Nat, j ≤ m ∧ i = .int .i64 j ∧ Hid (MapIs Tryd.prog 9 okInt wq w.heap.size (k * 1000 + j) (mapG (skG ((x.ts.take j).foldl (skT nv) s0)))) ∧ Hid (SkOk ((x.ts.take j).foldl (skT nv) s0) (k * 1000 + j)) ∧ Hid (Below w.heap.size w wq)) (fun i _ => m - (intOf i).toNat)
      case atStart => exact ⟨0, Nat.zero_le _, rfl, HM4, hsk, HB4⟩
      case round =>
        clear HM4 HB4 f8 hsk
        obtain ⟨j, hj, rfl, hmap, hsk, hbw⟩ := hrel
        obtain ⟨wq, rfl⟩ : ∃ wq : World, wq = wr := ⟨_, rfl⟩
        by_cases hlt2 : j < m
        · obtain ⟨tg, htg⟩ : ∃ tg, x.ts[j]? = some tg := ⟨x.ts[j]'(by rw [HML.out]; exact hlt2), List.getElem?_eq_getElem _⟩
          obtain ⟨gt, ot, hAt, hgt, hct⟩ := HTR.out.at (by omega)
          have t0 : wq.cell? ⟨gt, ot + j, none⟩ = some (.string tg) := (hbw.out.cell (p := ⟨gt, ot + j, none⟩) hgt).trans (hct j _ (by simp [htg]))
          have htm : tg.size ≤ maxLen := by have := name_size (HGX.out tg (List.mem_of_getElem? htg)); unfold maxLen; omega
          have HFS : Hid ((x.ts.take (j + 1)).foldl (skT nv) s0 = skT nv ((x.ts.take j).foldl (skT nv) s0) tg) := Lib.hid (by rw [take_snoc htg, List.foldl_append]; rfl)
          have hj8 : (j : Int) < (m : Int) := by omega
          have hj9 : (0 : Int) ≤ (j : Int) := by omega
          obtain ⟨s1, hs1⟩ : ∃ s1, (x.ts.take j).foldl (skT nv) s0 = s1 := ⟨_, rfl⟩
          rw [hs1] at hmap hsk HFS
          have HV : Hid ((mapG (skG s1) (.string tg.data.toList)).getD (.int .i64 0) = .int .i64 (s1.S tg)) := Lib.hid (by rw [mapG_at, skG_get hsk.out])
          have hsb := hsk.out.2 tg
          obtain ⟨zv, hzv⟩ : ∃ zv, s1.S tg = zv := ⟨_, rfl⟩
          rw [hzv] at HV hsb
          have HZV := Lib.hid hzv
          obtain ⟨zb1, zb2⟩ := hsb
          have zb3 : zv ≤ 10485760000000000 := by omega
          subst hAt
          clear htg hct hs1 hzv zb2
          go_wp2_with (first
            | (at_lookup; refine wpList_lookM _ rfl _ _ 73 rfl 9 2 (string_keyed Tryd.underlying9) Tryd.underlying73 okInt _ (zeroI64 _) rfl w.heap.size _ _ rfl hmap.out _ _ rfl (WideMaps.keyOf_string_mk Tryd.underlying9 htm) _ HV.out ?_)
            | (at_mapUpdate; refine wpList_storeM _ rfl _ _ _ 73 rfl 9 2 (string_keyed Tryd.underlying9) Tryd.underlying73 okInt w.heap.size _ _ rfl hmap.out (by unfold maxLen; omega) _ (.int .i64 (zv + nv)) _ rfl rfl (WideMaps.keyOf_string_mk Tryd.underlying9 htm) rfl ?_; intro w8 hm8 hg8 hs8)
            | fail)
          have HM8 : Hid (MapIs Tryd.prog 9 okInt w8 w.heap.size (k * 1000 + (j + 1)) (mapG (skG ((x.ts.take (j + 1)).foldl (skT nv) s0)))) := Lib.hid (by
            rw [HFS.out]
            refine (hm8.mono (by omega)).congr (fun kl => ?_)
            have := skG_upd s1 tg nv kl
            rw [HZV.out] at this
            exact this)
          have HB8 : Hid (Below w.heap.size w w8) := Lib.hid (hbw.out.grown hg8 hbw.out.size (fun q hq => by cases hq; exact Nat.le_refl _))
          have HO8 : Hid (SkOk ((x.ts.take (j + 1)).foldl (skT nv) s0) (k * 1000 + (j + 1))) := Lib.hid (by rw [HFS.out]; exact hsk.out.add ⟨nb1, nb2⟩ tg)
          clear hm8 hg8 hs8
          go_roundw
          case rel => exact ⟨j + 1, by omega, by go_num, HM8, HO8, HB8⟩
          case measure => simp [intOf]; omega
        · obtain rfl : m = j := by omega
          have HFE : Hid ((x.ts.take m).foldl (skT nv) s0 = skL half now (l.take (k + 1))) := Lib.hid (by rw [← HML.out, List.take_length, HS1.out])
          rw [HFE.out] at hmap hsk
          go_wp2_with fail
          go_roundw
          case rel => exact ⟨k + 1, by omega, by go_num, Lib.hid (hmap.out.mono (by omega)), Lib.hid (hsk.out.mono (by omega)), hbw⟩
          case measure => simp [intOf]; omega
    obtain rfl : N = k := by omega
    have htl : l.take N = l := by rw [← HNL.out, List.take_length]
    rw [htl] at hmap hsk
    obtain ⟨s0, hs0⟩ : ∃ s0, skL half now l = s0 := ⟨_, rfl⟩
    rw [hs0] at hmap hsk HIT
    clear htl hs0 hlt hk
    obtain ⟨i0, hi0, hz0, hz1, hz2⟩ := info_parts ct_info
    obtain ⟨n0, hn0⟩ : ∃ n0, N * 1000 = n0 := ⟨_, rfl⟩
    rw [hn0] at hmap hsk
    have hn0b : n0 ≤ 1000000 := by omega
    clear hn0
    go_wp2_with (first
      | (at_range; refine wpList_rangeM _ rfl _ 73 rfl 9 2 (string_keyed Tryd.underlying9) Tryd.underlying73 okInt w.heap.size n0 _ rfl hmap.out ?_; intro w5 cnt5 hrg5 hg5 hs5 hc5)
      | fail)
    obtain ⟨r, hr⟩ : ∃ r, wr.heap.size = r := ⟨_, rfl⟩
    rw [hr] at hrg5 ⊢
    have HRG5 := Lib.hid hrg5
    have HB5 : Hid (Below w.heap.size w w5) := Lib.hid (hbw.out.grown hg5 hbw.out.size (fun q hq => by cases hq))
    have HWR : Hid (w.heap.size < r) := Lib.hid (by rw [← hr]; exact hmap.out.lt)
    have HR5 : Hid (r < w5.heap.size ∧ w.heap.size < w5.heap.size) := Lib.hid ⟨by omega, by have := hmap.out.lt; omega⟩
    clear hrg5 hg5 hs5 hr hmap hbw
    go_frame
    go_loopw [13] (fun v wq => ∃ (left : Lit → Bool) (cnt : Nat) (out : List Ct), Hid (MapGoes Tryd.prog 9 okInt wq w.heap.size r n0 (mapG (skG s0)) left cnt) ∧ Hid (CtTo s0 left out) ∧ Hid (out.length + cnt ≤ n0) ∧ Hid (wq.ownsRow w5.heap.size 45 2 v out.length (out.flatMap ctC)) ∧ Hid (Below w.heap.size w wq) ∧ Hid (w5.heap.size ≤ wq.heap.size)) (fun _ wq => wq.rangeLeft w.heap.size r)
    case atStart => exact ⟨_, cnt5, [], HRG5, Lib.hid (CtTo.start s0), Lib.hid (by simpa using hc5), Lib.hid (own_nil _ _ _ _), HB5, Lib.hid (Nat.le_refl _)⟩
    case round =>
      obtain ⟨left, cnt, out, hrg, hct, hlen, hrow, hbw, hz5⟩ := hrel
      obtain ⟨A6, c6, hq⟩ := own_shape hrow.out
      rw [hq] at hrow ⊢
      clear hq
      obtain ⟨m, hm⟩ : ∃ m, out.length = m := ⟨_, rfl⟩
      rw [hm] at hlen hrow ⊢
      have HM := Lib.hid hm
      have hlen' := hlen.out
      have hz5' := hz5.out
      clear hm HB5 HRG5
      obtain ⟨wq, rfl⟩ : ∃ wq : World, wq = wr := ⟨_, rfl⟩
      go_wp2_with (first
        | (at_next; refine wpList_nextS _ rfl _ rfl 9 Tryd.underlying9 okInt (fun z : Int => .int .i64 z) (fun v hv => mk_int hv) w.heap.size r n0 _ _ _ rfl hrg.out ?_ ?_)
        | fail)
      · intro h0 hl
        have HOUT : Hid ((out.map (·.key)).Nodup ∧ ∀ c, c ∈ out ↔ 0 < c.n ∧ c.n = s0.S c.key) := Lib.hid ⟨hct.out.1, fun c => by
          rw [hct.out.2, hl]
          constructor
          · rintro ⟨h1, _, h3, _⟩; exact ⟨h1, h3⟩
          · rintro ⟨h1, h3⟩
            refine ⟨h1, ?_, h3, rfl⟩
            cases hk : s0.K c.key
            · have := hsk.out.1 c.key hk; omega
            · rfl⟩
        have HST := Lib.hid (srtC_any wq w5.heap.size A6 out m c6 HM.out hrow.out (by omega))
        clear hl h0 hrg hct
        go_wp2_with fail
        refine HST.out.mono ?_
        rintro e w9 ⟨rfl, L, hperm, hpw, hrow9, hk9⟩
        have HB9 : Hid (Below w.heap.size w w9) := Lib.hid (hbw.out.trans ((hk9.toBelow (B := w.heap.size) (fun i hi => by have := (hrow.out.lt i hi).1; have := HR5.out.2; omega) hbw.out.size)))
        have HL9 : Hid (L.length = m) := Lib.hid (by rw [hperm.length_eq, HM.out])
        have HR9 : Hid (RowIn w9 w9.heap.size 2 A6 m (L.flatMap ctC)) := Lib.hid (hrow9.more hk9.size)
        have HI9 : Hid (IsTaste rs half p now L) := Lib.hid ((HIT.out L).2 ⟨by
          have hnd : (L.map (·.key)).Nodup := (hperm.map _).nodup_iff.2 HOUT.out.1
          have h2 : L.Pairwise (fun x y => x.key ≠ y.key) := by
            have := hnd
            unfold List.Nodup at this
            rw [List.pairwise_map] at this
            exact this
          refine (hpw.and h2).imp (fun {a b} hab => ?_)
          have h3 : cmpCI a b ≠ 0 := fun e => hab.2 (by rw [(cmpC_tri.zero a b).1 e])
          have h4 : ¬ 0 < cmpCI a b := fun e => by have h5 := (cmpC_tri.anti b a).2 e; have h6 := hab.1; omega
          omega, fun c => by rw [hperm.mem_iff, HOUT.out.2]⟩)
        clear hperm hpw hrow9 hk9 HST
        go_wp2_with fail
        go_ret
        refine ⟨A6, c6, L, by rw [HL9.out]; rfl, HI9.out, by rw [HL9.out]; omega, by rw [HL9.out]; exact HR9.out, HB9.out⟩
      · intro x at1 w6 cnt1 hsx hlx hok hMx hrg6 hlt6 hg6 hs6 hen
        rw [mapG_at] at hMx
        have hkx : s0.K x = true ∧ s0.S x = at1 := by
          unfold skG at hMx
          split at hMx
          · rename_i hkk
            injection hMx with hMx
            injection hMx with _ hMx
            exact ⟨hkk, hMx⟩
          · cases hMx
        have HNX := Lib.hid (hct.out.next hlx hkx.1)
        rw [hkx.2] at HNX
        have hk6 : Kept (fun q => q = r) wq w6 := (Kept.refl _ _).grown hg6 (fun j hj => by cases hj; exact Or.inl rfl)
        have HO6 : Hid (w6.ownsRow w5.heap.size 45 2 (.slice A6 m c6) m (out.flatMap ctC)) := Lib.hid (owns_kept hrow.out hk6 (fun g hg e => by have := (hrow.out.lt g hg).1; have := HR5.out.1; omega))
        have HB6 : Hid (Below w.heap.size w w6) := Lib.hid (hbw.out.grown hg6 hbw.out.size (fun q hq => by cases hq; exact Nat.le_of_lt (by have := hrg.out.ne; have := hrg.out.lt; have := hrg.out.map.lt; exact HWR.out)))
        have HRG6 := Lib.hid hrg6
        have HLT6 : Hid (cnt1 < wq.rangeLeft w.heap.size r) := Lib.hid (by rw [hrg.out.left_eq]; exact hlt6)
        have hc6 : cnt1 < cnt := hlt6
        have hz6 : w5.heap.size ≤ w6.heap.size := by omega
        clear hMx hkx hk6 hrg6 hlt6 hg6 hs6 hlx hrg hct hok hrow hbw
        by_cases hp0 : 0 < at1
        · go_wp2_with (first
            | (at_builtin; refine wpList_append_row _ rfl _ _ 31 rfl w5.heap.size 45 i0 _ 2 24 Tryd.underlying31 hi0 hz0 hz1 hz2 rfl (by omega) (.slice A6 m c6) m _ rfl (HO6.out.alloc _) (w6.heap.size + 1) (some ⟨w6.heap.size, 0, none⟩) 1 1 (ctC ⟨x, at1⟩) rfl (one_ct w6 _ _ _) (fun h => by cases h) (fun u hu => ctC_one [⟨x, at1⟩] u (by simpa using hu)) (by unfold maxLen; omega) (by omega) (by simp; omega) ?_; intro v7 w7 ho7 hg7 hv7))
          have HRG7 : Hid (MapGoes Tryd.prog 9 okInt w7 w.heap.size r n0 (mapG (skG s0)) (fun z => left z && !z.sameKey (.string x.data.toList)) cnt1) := Lib.hid ((HRG6.out.alloc _).grown hg7 (fun e => by have := (HO6.out.lt _ e.symm).1; have := HR5.out.2; omega) (fun e => by have := (HO6.out.lt _ e.symm).1; have := HR5.out.1; omega))
          have HB7 : Hid (Below w.heap.size w w7) := Lib.hid ((HB6.out.alloc HB6.out.size _).grown hg7 (by have := HB6.out.size; simp; omega) (fun q hq => by have := (HO6.out.lt q hq).1; have := HR5.out.2; omega))
          have HZ7 : Hid (w5.heap.size ≤ w7.heap.size) := Lib.hid (by have := hg7.size; simp at this; omega)
          go_roundw
          case rel =>
            refine ⟨_, cnt1, out ++ [⟨x, at1⟩], HRG7, Lib.hid (HNX.out.1 hp0), Lib.hid (by rw [List.length_append, HM.out]; simp; omega), Lib.hid ?_, HB7, HZ7⟩
            rw [List.length_append, HM.out, List.flatMap_append]
            simpa using ho7
          case measure => rw [HRG7.out.left_eq]; exact HLT6.out
        · have dp0 : decide (0 < at1) = false := decide_eq_false hp0
          have HNN := Lib.hid (HNX.out.2 hp0)
          clear hp0
          go_wp2_with fail
          go_roundw
          case rel => exact ⟨_, cnt1, out, HRG6, HNN, Lib.hid (by rw [HM.out]; omega), Lib.hid (by rw [HM.out]; exact HO6.out), HB6, Lib.hid hz6⟩
          case measure => rw [HRG6.out.left_eq]; exact HLT6.out

end Go.Proofs.YtnkglbiakjnfjaaDoor
