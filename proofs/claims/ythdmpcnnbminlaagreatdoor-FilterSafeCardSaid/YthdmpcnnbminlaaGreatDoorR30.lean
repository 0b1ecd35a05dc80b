/- A part of the joined base. -/
import Derived.Test.YthdmpcnnbminlaaGreatDoorR01
import Derived.Test.YthdmpcnnbminlaaGreatDoorR29
set_option linter.unusedVariables false
set_option maxHeartbeats 8000000
set_option maxRecDepth 100000
namespace Go.Proofs.YthdmpcnnbminlaaGreatDoor
open Go.Shelf Go.RowKit Go.Maps
section
variable {w w' : World} {wb base n : Nat} {c : Cfg} {v v' : Value} {a : Bool} {last : Ev} {b : Wb} {τ : Nat → Nat} {es es' ad ad' : List Ev} {S : ByteArray → Bool} {th : List Ev} {rs : List Rw}
theorem Rest.row9 (R : Rest 9 w wb base c v a last b τ n es ad S th rs) (k : Kept (fun q => q = wb) w w') (hb : Blk w' wb 111 (wdCells c v' a last b)) (ho : w'.ownsRow base 31 8 v' es'.length (es'.flatMap evC)) (hr : ∀ g, v'.ownBlock = some g → τ g = 9) : WdG w' wb base c v' a last b τ n es' ad S th rs := by
 have off1 : ∀ (m q : Nat), τ q = m + 2 → ¬ q = wb := fun m q hq e => by rw [e, R.tw] at hq; omega
 obtain ⟨F, hF, hF2⟩ := R.cat (by omega)
 obtain ⟨U, hU, hU2⟩ := R.crw (by omega)
 obtain ⟨B6, h6, h62⟩ := R.pop (by omega)
 obtain ⟨B7, h7, h72⟩ := R.pan (by omega)
 obtain ⟨B8, h8, h82⟩ := R.ses (by omega)
 exact ⟨hb, ho, (R.add (by omega)).kept k (off1 0 _ R.ta), (R.fgt (by omega)).kept k (off1 1 _ R.tf), ⟨F, hF.kept k (fun q hq => off1 2 q (hF2 q hq)), hF2⟩, ⟨U, hU.kept k (fun q hq => off1 3 q (hU2 q hq)), hU2⟩, ⟨B6, h6.kept k (fun q hq => off1 4 q (h62 q hq)), h62⟩, ⟨B7, h7.kept k (fun q hq => off1 5 q (h72 q hq)), h72⟩, ⟨B8, h8.kept k (fun q hq => off1 6 q (h82 q hq)), h82⟩, R.tw, R.ta, R.tf, hr, fun q hq => ⟨(R.low q hq).1, Nat.lt_of_lt_of_le (R.low q hq).2 k.size⟩⟩
theorem WdG.new9 {w'' : World} (h : WdG w wb base c v a last b τ n es ad S th rs) (k : Kept (fun q => v.ownBlock = some q) w w') (k2 : Kept (fun q => q = wb) w' w'') (hb : Blk w'' wb 111 (wdCells c v' a last b)) (ho : w''.ownsRow base 31 8 v' es'.length (es'.flatMap evC)) (hlt : ∀ g, v'.ownBlock = some g → g < w'.heap.size) (hr : v'.ownBlock = v.ownBlock ∨ ∃ g, v'.ownBlock = some g ∧ w.heap.size ≤ g) : WdG w'' wb base c v' a last b (tauM τ w.heap.size w'.heap.size 9) n es' ad S th rs := by
 refine (h.rest (m := 9) (k.mono (fun q _ hq => h.tr q hq)) (by omega) h.base_le).row9 k2 hb ho (fun g hg => ?_)
 rcases hr with hr | ⟨g', hr, hge⟩
 ·rw [hg] at hr
  have h1 := h.tr g hr.symm
  rw [tauM_old (h.low g (by rw [h1]; omega)).2]
  exact h1
 ·rw [hg] at hr
  cases hr
  exact tauM_new hge (hlt g hg)
theorem WdG.new2 (h : WdG w wb base c v a last b τ n es ad S th rs) (ha : IsI okBool w' b.ab (n + 1) (idF ad')) (k : Kept (fun q => q = b.ab) w w') : WdG w' wb base c v a last b (tauM τ w.heap.size w'.heap.size 2) (n + 1) es ad' S th rs := by
 have R := (h.mono (Nat.le_succ n)).rest (m := 2) (k.mono (fun q _ hq => by rw [hq]; exact h.ta)) (by omega) h.base_le
 exact ⟨R.blk (by omega), R.row (by omega), ha, R.fgt (by omega), R.cat (by omega), R.crw (by omega), R.pop (by omega), R.pan (by omega), R.ses (by omega), R.tw, R.ta, R.tf, R.tr (by omega), R.low⟩
theorem WdG.new3 {S' : ByteArray → Bool} (h : WdG w wb base c v a last b τ n es ad S th rs) (ha : MapIs Tryz.prog 9 okBool w' b.fb (n + 1) (mapG (stG S'))) (k : Kept (fun q => q = b.fb) w w') : WdG w' wb base c v a last b (tauM τ w.heap.size w'.heap.size 3) (n + 1) es ad S' th rs := by
 have R := (h.mono (Nat.le_succ n)).rest (m := 3) (k.mono (fun q _ hq => by rw [hq]; exact h.tf)) (by omega) h.base_le
 exact ⟨R.blk (by omega), R.row (by omega), R.add (by omega), ha, R.cat (by omega), R.crw (by omega), R.pop (by omega), R.pan (by omega), R.ses (by omega), R.tw, R.ta, R.tf, R.tr (by omega), R.low⟩
end
theorem ev8_info : (Tryz.prog.info? 31).map (·.size) = some 8 := by kernel_rfl
theorem put_last (c : Cfg) (v : Value) (a : Bool) (l e : Ev) (b : Wb) : putA (wdCells c v a l b) 8 [.string e.src, .int .i64 e.num, .int .i64 e.tick, .int .i64 e.kind, .string e.person, .string e.item, .int .i64 e.value, .string e.text] = wdCells c v a e b := by
 simp only [putA, wdCells, List.setIfInBounds_toArray, List.set_cons_zero, List.set_cons_succ]
theorem put_row (c : Cfg) (v v' : Value) (a : Bool) (e : Ev) (b : Wb) : (wdCells c v a e b).setIfInBounds 6 v' = wdCells c v' a e b := by
 simp only [wdCells, List.setIfInBounds_toArray, List.set_cons_zero, List.set_cons_succ]
theorem evs_snoc (es : List Ev) (e : Ev) : (es ++ [e]).flatMap evC = es.flatMap evC ++ evC e := by rw [List.flatMap_append]; simp
def PutR (τ₀ : Nat → Nat) (w : World) (wb base : Nat) (c : Cfg) (n : Nat) (es : List Ev) (S : ByteArray → Bool) (x : Ev) (e : Ending) (w' : World) : Prop := e = .returned (.tuple #[]) ∧ ∃ v b τ, WdG w' wb base c v true x b τ (n + 9) (es ++ [x]) (es ++ [x]) S (thgs (es ++ [x])) (rowsW (es ++ [x])) ∧ Kept (fun q => τ₀ q ≠ 0) w w' ∧ ∀ q, q < w.heap.size → τ q = τ₀ q
theorem count_any (w : World) (wb base : Nat) (c : Cfg) (v : Value) (a : Bool) (last : Ev) (b : Wb) (τ : Nat → Nat) (n : Nat) (es' ad : List Ev) (S : ByteArray → Bool) (es : List Ev) (e : Ev) (h : WdG w wb base c v a last b τ n es' ad S (thgs es) (rowsW es)) (hnx : NextE es e) (hok : EvOk e) (hall : ∀ x ∈ es, EvOk x) (hlen : es.length ≤ 10000) (hn : n ≤ 800000) (hg : GlobAt w) (hgb : 2 < base) :
  Calls Tryz.prog 106 #[.pointer (some ⟨wb, 0, none⟩), evA e] w (CountR τ w wb base c v a last b n es' ad S (es ++ [e])) := by
 have hk := may_kind hok.1
 by_cases h1 : e.kind < 11
 ·exact count_crowd w wb base c v a last b τ n es' ad S es e h hnx hok hall hlen hn hg h1
 ·by_cases h2 : e.kind = 14
  ·exact count_gone w wb base c v a last b τ n es' ad S es e h h2
  ·exact count_cat w wb base c v a last b τ n es' ad S es e h hnx hok hlen hg hgb (decide_eq_true (by omega))
theorem wput_any (w : World) (wb base : Nat) (c : Cfg) (v : Value) (a : Bool) (last : Ev) (b : Wb) (τ : Nat → Nat) (n : Nat) (S : ByteArray → Bool) (es : List Ev) (e : Ev) (h : WdG w wb base c v a last b τ n es es S (thgs es) (rowsW es)) (hnx : NextE es e) (hok : EvOk e) (hall : ∀ x ∈ es, EvOk x) (hlen : es.length ≤ 10000) (hn : n ≤ 700000) (hg : GlobAt w) (hgb : 2 < base) :
  Calls Tryz.prog 58 #[.pointer (some ⟨wb, 0, none⟩), evA e] w (PutR τ w wb base c n es S e) := by
 obtain ⟨A, cp, hv⟩ := own_shape h.row
 subst hv
 obtain ⟨w1, hw1⟩ : ∃ w1, w.alloc (.cells (evArr e) 31) = w1 := ⟨_, rfl⟩
 have HE1 : Hid (Blk w1 w.heap.size 31 (evArr e)) := zh (by rw [← hw1]; exact Blk.new _ _ _)
 have HB1 : Hid (Below w.heap.size w w1) := zh (by rw [← hw1]; exact (Below.refl _ _).alloc (Nat.le_refl _) _)
 have HI1 : Hid (WdG w1 wb base c (.slice A es.length cp) a last b τ n es es S (thgs es) (rowsW es)) := zh (h.below HB1.out)
 have HG1 : Hid (GlobAt w1) := zh (hg.keep HB1.out (Nat.le_refl _))
 have hwl : wb < w.heap.size := h.blk.lt
 have hwb : base ≤ wb := (h.low wb (by rw [h.tw]; omega)).1
 have HWT : Hid (τ wb ≠ 0) := zh (by rw [h.tw]; omega)
 have HAT : Hid (τ b.ab ≠ 0) := zh (by rw [h.ta]; omega)
 have HRT : Hid (∀ g, (Value.slice A es.length cp).ownBlock = some g → τ g ≠ 0) := zh (fun g hg => by rw [h.tr g hg]; omega)
 have HEB : Hid (τ w.heap.size = 0) := zh (by
  by_cases hz : τ w.heap.size = 0
  ·exact hz
  ·have := (h.low _ hz).2; omega)
 have HOK := zh hok
 have HALL := zh hall
 have HNX := zh hnx
 have HS1 : Hid (CnS w1.drew wb 16 w.heap.size (.map (some b.ab)) e) := zh (cns_of HI1.out.blk.drew rfl HE1.out.drew)
 have g7 : w1.drew.cell? ⟨wb, 7, none⟩ = some (.bool a) := HI1.out.blk.drew.cell 7
 have f7 : w1.drew.frozen? ⟨wb, 7, none⟩ = false := HI1.out.blk.drew.frozen 7
 clear h hok hall hnx hg
 unfold evA
 unfold evArr at hw1
 go_enter Tryz.func58, Tryz.ntmps58
 go_upto_region 1 with fail
 refine wp_plan (fun W => CnS W wb 16 w.heap.size (.map (some b.ab)) e) [(0, false), (1, false), (2, false), (3, false), (4, false), (5, true), (6, false), (7, false), (8, true)] (by kernel_rfl) (by kernel_rfl) HS1.out ?_
 simp only [planL, List.getElem?_cons_zero, List.getElem?_cons_succ]
 repeat (first | (refine plan_on _ (by rfl) (fun W hW => by (obtain ⟨x8, x0, x1, x2, x3, x4, x5, x6, x7⟩ := hW; go_simp; try with_reducible rfl)) ?_; simp only [Act.put, xq1, xq2, xq3]) | (refine plan_off (by rfl) ?_; simp only [Act.put, xq1, xq2, xq3]))
 refine plan_turn ?_
 go_wp2_with fail
 obtain ⟨w2, hw2⟩ : ∃ z, (w1.setCell ⟨wb, 7, none⟩ (.bool true)).drew = z := ⟨_, rfl⟩
 rw [hw2]
 have k12 : Kept (fun q => q = wb) w1 w2 := by rw [← hw2]; exact pset_kept.drew
 have HI2 : Hid (WdG w2 wb base c (.slice A es.length cp) true last b (tauM τ w1.heap.size w2.heap.size 1) n es es S (thgs es) (rowsW es)) := zh (HI1.out.new1 (by rw [← hw2]; exact (HI1.out.blk.set_ 7 _).drew) k12)
 have HE2 : Hid (Blk w2 w.heap.size 31 (evArr e)) := zh (HE1.out.kept k12 (by omega))
 have HK2 : Hid (Kept (fun q => τ q ≠ 0) w w2) := zh ((below_kept HB1.out (Nat.le_refl _)).trans (k12.mono (fun i _ hi => by rw [hi]; exact HWT.out)))
 have HT2 : Hid (tauM τ w1.heap.size w2.heap.size 1 w.heap.size = 0) := zh (by rw [tauM_old HE1.out.lt]; exact HEB.out)
 have HG2 : Hid (GlobAt w2) := zh (HG1.out.kept k12 (fun i hi => by omega))
 have HO2 : Hid (∀ q, q < w.heap.size → tauM τ w1.heap.size w2.heap.size 1 q = τ q) := zh (fun q hq => tauM_old (Nat.lt_trans hq HE1.out.lt))
 obtain ⟨τ2, hτ2⟩ : ∃ z, tauM τ w1.heap.size w2.heap.size 1 = z := ⟨_, rfl⟩
 rw [hτ2] at HI2 HT2 HO2
 clear hw2 k12 hτ2 g7 f7 HI1 HE1 HB1 HS1 HG1 HEB
 refine ⟨cns_of HI2.out.blk rfl HE2.out, ?_⟩
 repeat (first | (refine plan_on _ (by rfl) (fun W hW => by (obtain ⟨x8, x0, x1, x2, x3, x4, x5, x6, x7⟩ := hW; go_simp; try with_reducible rfl)) ?_; simp only [Act.put, xq1, xq2, xq3]) | (refine plan_off (by rfl) ?_; simp only [Act.put, xq1, xq2, xq3]))
 refine plan_turn ?_
 refine wpList_store_blk w2 rfl 31 _ _ rfl 8 #[.string e.src, .int .i64 e.num, .int .i64 e.tick, .int .i64 e.kind, .string e.person, .string e.item, .int .i64 e.value, .string e.text] rfl rfl HI2.out.blk (by show 8 + 8 ≤ 24; omega) ev8_info (by simp [Value.oneCell']) ?_
 intro w3 hb3' k23 hs3
 have hb3 : Blk w3 wb 111 (wdCells c (.slice A es.length cp) true e b) := by rw [← put_last c (.slice A es.length cp) true last e b]; exact hb3'
 clear hb3'
 have HI3 : Hid (WdG w3 wb base c (.slice A es.length cp) true e b (tauM τ2 w2.heap.size w3.heap.size 1) n es es S (thgs es) (rowsW es)) := zh (HI2.out.new1 hb3 k23)
 have HE3 : Hid (Blk w3 w.heap.size 31 (evArr e)) := zh (HE2.out.kept k23 (by omega))
 have HK3 : Hid (Kept (fun q => τ q ≠ 0) w w3) := zh (HK2.out.trans (k23.mono (fun i _ hi => by rw [hi]; exact HWT.out)))
 have HT3 : Hid (tauM τ2 w2.heap.size w3.heap.size 1 w.heap.size = 0) := zh (by rw [tauM_old HE2.out.lt]; exact HT2.out)
 have HG3 : Hid (GlobAt w3) := zh (HG2.out.kept k23 (fun i hi => by omega))
 have HO3 : Hid (∀ q, q < w.heap.size → tauM τ2 w2.heap.size w3.heap.size 1 q = τ q) := zh (fun q hq => by rw [tauM_old (Nat.lt_trans hq HE2.out.lt)]; exact HO2.out q hq)
 obtain ⟨τ3, hτ3⟩ : ∃ z, tauM τ2 w2.heap.size w3.heap.size 1 = z := ⟨_, rfl⟩
 rw [hτ3] at HI3 HT3 HO3
 clear hb3 k23 hs3 hτ3 HI2 HE2 HK2 HT2 HG2
 go_wp2_with fail
 refine ⟨cns_of HI3.out.blk rfl HE3.out, ?_⟩
 refine plan_done ?_
 obtain ⟨Ma, hMa, hMaI⟩ := HI3.out.add
 have HMA := zh hMa
 have HMI := zh hMaI
 have hsz : e.src.size ≤ maxLen := by have := HOK.out.2.1; unfold maxLen; omega
 have HIR : Hid (InR e.num) := zh (by have := (may_parts HOK.out.1).2.1; unfold InR; omega)
 have HKEY := zh (idn_keyOf e.src e.num hsz HIR.out)
 have HS3 : Hid (CnS w3.drew wb 16 w.heap.size (.map (some b.ab)) e) := zh (cns_of HI3.out.blk.drew rfl HE3.out.drew)
 clear hMa hMaI
 go_wp2_with fail
 refine wp_planN (fun W => CnS W wb 16 w.heap.size (.map (some b.ab)) e) [(0, 1), (1, 1), (2, 1), (3, 1), (4, 1), (5, 1), (6, 1), (7, 1), (8, 1), (9, 3)] (by kernel_rfl) (by kernel_rfl) HS3.out ?_
 simp only [planNL, List.getElem?_cons_zero, List.getElem?_cons_succ]
 repeat (first | (refine planN_on _ (by rfl) (fun W hW => by (obtain ⟨x8, x0, x1, x2, x3, x4, x5, x6, x7⟩ := hW; go_simp; try with_reducible rfl)) ?_; simp only [Act.put, xq1, xq2, xq3]) | (refine planN_off (by rfl) ?_; simp only [Act.put, xq1, xq2, xq3]) | (refine planN_on0 _ (by rfl) (fun W hW => by (go_simp; try with_reducible rfl)) ?_; simp only [Act.put, xq1, xq2, xq3]))
 refine planN_last ?_
 go_wp2_with (first
  | (at_mapUpdate; refine wpList_storeM _ rfl _ _ _ 104 rfl 172 4 idnKeyed Tryz.underlying104 okBool b.ab n Ma rfl HMA.out.drew (by unfold maxLen; omega) _ (.bool true) _ rfl rfl HKEY.out rfl ?_; intro w4 hm4 hg4 hs4))
 have k34 : Kept (fun q => q = b.ab) w3 w4 := ((Kept.refl (fun q => q = b.ab) w3).drew).grown hg4 (fun j hj => Or.inl (by cases hj; rfl))
 have HI4 : Hid (WdG w4 wb base c (.slice A es.length cp) true e b (tauM τ3 w3.heap.size w4.heap.size 2) (n + 1) es (es ++ [e]) S (thgs es) (rowsW es)) := zh (HI3.out.new2 ⟨_, hm4, fun x k hx hk => by rw [updI_is HMI.out hsz HIR.out (.bool true) x k hx hk, idF_snoc]⟩ k34)
 have hab : base ≤ b.ab := (HI3.out.low _ (by rw [HI3.out.ta]; omega)).1
 have HE4 : Hid (Blk w4 w.heap.size 31 (evArr e)) := zh (HE3.out.kept k34 (fun hq => by have := HI3.out.ta; rw [← hq, HT3.out] at this; omega))
 have HK4 : Hid (Kept (fun q => τ q ≠ 0) w w4) := zh (HK3.out.trans (k34.mono (fun i _ hi => by rw [hi]; exact HAT.out)))
 have HT4 : Hid (tauM τ3 w3.heap.size w4.heap.size 2 w.heap.size = 0) := zh (by rw [tauM_old HE3.out.lt]; exact HT3.out)
 have HG4 : Hid (GlobAt w4) := zh (HG3.out.kept k34 (fun i hi => by omega))
 have HO4 : Hid (∀ q, q < w.heap.size → tauM τ3 w3.heap.size w4.heap.size 2 q = τ q) := zh (fun q hq => by rw [tauM_old (Nat.lt_trans hq HE3.out.lt)]; exact HO3.out q hq)
 obtain ⟨τ4, hτ4⟩ : ∃ z, tauM τ3 w3.heap.size w4.heap.size 2 = z := ⟨_, rfl⟩
 rw [hτ4] at HI4 HT4 HO4
 clear hm4 hg4 hs4 k34 hτ4 HI3 HE3 HK3 HT3 HG3 HMA HMI HKEY HS3
 have HS4 : Hid (CnS w4.drew wb 6 w.heap.size (.slice A es.length cp) e) := zh (cns_of HI4.out.blk.drew rfl HE4.out.drew)
 obtain ⟨i0, hi0, hy0, hy1, hy2⟩ := info_parts ev_info
 go_wp2_with fail
 refine planN_done ?_
 go_wp2_with fail
 refine wp_planN (fun W => CnS W wb 6 w.heap.size (.slice A es.length cp) e) [(0, 1), (1, 1), (2, 1), (3, 1), (4, 1), (5, 1), (6, 2), (7, 2), (8, 1), (9, 1), (10, 3)] (by kernel_rfl) (by kernel_rfl) HS4.out ?_
 simp only [planNL, List.getElem?_cons_zero, List.getElem?_cons_succ]
 repeat (first | (refine planN_on _ (by rfl) (fun W hW => by (obtain ⟨x8, x0, x1, x2, x3, x4, x5, x6, x7⟩ := hW; go_simp; try with_reducible rfl)) ?_; simp only [Act.put, xq1, xq2, xq3]) | (refine planN_off (by rfl) ?_; simp only [Act.put, xq1, xq2, xq3]) | (refine planN_on0 _ (by rfl) (fun W hW => by (go_simp; try with_reducible rfl)) ?_; simp only [Act.put, xq1, xq2, xq3]))
 refine planN_turn ?_
 go_wp2_with fail
 obtain ⟨w5, hw5⟩ : ∃ z, (w4.alloc (.cells #[.string e.src, .int .i64 e.num, .int .i64 e.tick, .int .i64 e.kind, .string e.person, .string e.item, .int .i64 e.value, .string e.text] 31)).drew = z := ⟨_, rfl⟩
 rw [hw5]
 have k45 : Kept (fun _ => False) w4 w5 := by rw [← hw5]; exact ((Kept.refl _ _).alloc _).drew
 have HI5 : Hid (WdG w5 wb base c (.slice A es.length cp) true e b τ4 (n + 1) es (es ++ [e]) S (thgs es) (rowsW es)) := zh (HI4.out.kept k45 (fun _ h => h.elim))
 have HE5 : Hid (Blk w5 w.heap.size 31 (evArr e)) := zh (HE4.out.kept k45 (fun h => h))
 have HK5 : Hid (Kept (fun q => τ q ≠ 0) w w5) := zh (HK4.out.trans (k45.mono (fun _ _ h => h.elim)))
 have HG5 : Hid (GlobAt w5) := zh (HG4.out.kept k45 (fun _ _ h => h))
 have HR5 : Hid (RowIn w5 (w4.heap.size + 1) 8 (some ⟨w4.heap.size, 0, none⟩) 1 (evC e)) := zh (by rw [← hw5]; exact (one_ev w4 e _).drew)
 have HZ5 : Hid (w4.heap.size + 1 ≤ w5.heap.size) := zh (by rw [← hw5]; show _ ≤ (w4.alloc _).heap.size; simp)
 have HBS := zh HI5.out.base_le
 clear hw5 k45 HI4 HE4 HK4 HG4 HS4
 refine ⟨cns_of HI5.out.blk rfl HE5.out, ?_⟩
 refine planN_turn ?_
 go_wp2_with (first
  | (at_builtin; refine wpList_append_row _ rfl _ _ 24 rfl base 31 i0 _ 8 96 Tryz.underlying24 hi0 hy0 hy1 hy2 rfl (by omega) (.slice A es.length cp) es.length _ rfl HI5.out.row (w4.heap.size + 1) (some ⟨w4.heap.size, 0, none⟩) 1 1 (evC e) rfl HR5.out (fun h => by cases h) (fun u hu => evC_one [e] u (by simpa using hu)) (by unfold maxLen; omega) (by omega) HBS.out ?_; intro v6 w6 ho6 hg6 hv6))
 obtain ⟨A6, c6, hv⟩ := own_shape ho6
 subst hv
 have k56 : Kept (fun q => (Value.slice A es.length cp).ownBlock = some q) w5 w6 := (Kept.refl _ _).grown hg6 (fun j hj => Or.inl hj)
 have HK56 := zh k56
 have HB6 : Hid (Blk w6 wb 111 (wdCells c (.slice A es.length cp) true e b)) := zh (HI5.out.blk.kept k56 (fun hq => own_ne_blk HI5.out.row HI5.out.blk (by decide) hq))
 have HE6 : Hid (Blk w6 w.heap.size 31 (evArr e)) := zh (HE5.out.kept k56 (fun hq => by have := HI5.out.tr _ hq; rw [HT4.out] at this; cases this))
 have HO6 := zh ho6
 have HV6 := zh hv6
 have c66 : w6.cell? ⟨wb, 6, none⟩ = some (.slice A es.length cp) := HB6.out.cell 6
 have f66 : w6.frozen? ⟨wb, 6, none⟩ = false := HB6.out.frozen 6
 clear ho6 hg6 hv6 k56
 refine ⟨cns_of HB6.out rfl HE6.out, ?_⟩
 repeat (first | (refine planN_on _ (by rfl) (fun W hW => by (obtain ⟨x8, x0, x1, x2, x3, x4, x5, x6, x7⟩ := hW; go_simp; try with_reducible rfl)) ?_; simp only [Act.put, xq1, xq2, xq3]) | (refine planN_off (by rfl) ?_; simp only [Act.put, xq1, xq2, xq3]) | (refine planN_on0 _ (by rfl) (fun W hW => by (go_simp; try with_reducible rfl)) ?_; simp only [Act.put, xq1, xq2, xq3]))
 refine planN_last ?_
 go_wp2_with fail
 obtain ⟨w7, hw7⟩ : ∃ z, w6.setCell ⟨wb, 6, none⟩ (.slice A6 (es.length + 1) c6) = z := ⟨_, rfl⟩
 rw [hw7]
 have k67 : Kept (fun q => q = wb) w6 w7 := by rw [← hw7]; exact pset_kept
 have HB7 : Hid (Blk w7 wb 111 (wdCells c (.slice A6 (es.length + 1) c6) true e b)) := zh (by rw [← put_row c (.slice A es.length cp), ← hw7]; exact HB6.out.set_ 6 _)
 have HI7 : Hid (WdG w7 wb base c (.slice A6 (es.length + 1) c6) true e b (tauM τ4 w5.heap.size w6.heap.size 9) (n + 1) (es ++ [e]) (es ++ [e]) S (thgs es) (rowsW es)) := zh (HI5.out.new9 HK56.out k67 HB7.out (by rw [List.length_append, evs_snoc]; exact owns_kept HO6.out k67 (fun g hg e => own_ne_blk HO6.out HB6.out (by decide) (by rw [← e]; exact hg))) (fun g hg => (HO6.out.lt g hg).2) (HV6.out.imp id (fun h => ⟨_, h, Nat.le_refl _⟩)))
 have HE7 : Hid (Blk w7 w.heap.size 31 (evArr e)) := zh (HE6.out.kept k67 (by omega))
 have HK7 : Hid (Kept (fun q => τ q ≠ 0) w w7) := zh ((HK5.out.trans (HK56.out.mono (fun i _ hi => HRT.out i hi))).trans (k67.mono (fun i _ hi => by rw [hi]; exact HWT.out)))
 have HG7 : Hid (GlobAt w7) := zh ((HG5.out.kept HK56.out (fun i hi hq => by have := (HI5.out.low i (by rw [HI5.out.tr i hq]; omega)).1; omega)).kept k67 (fun i hi => by omega))
 have HO7 : Hid (∀ q, q < w.heap.size → tauM τ4 w5.heap.size w6.heap.size 9 q = τ q) := zh (fun q hq => by rw [tauM_old (Nat.lt_trans hq HE5.out.lt)]; exact HO4.out q hq)
 have HC := zh (count_any w7 wb base c (.slice A6 (es.length + 1) c6) true e b _ (n + 1) (es ++ [e]) (es ++ [e]) S es e HI7.out HNX.out HOK.out HALL.out hlen (by omega) HG7.out hgb)
 unfold evA at HC
 have d0 : w7.cell? ⟨w.heap.size, 0, none⟩ = some (.string e.src) := HE7.out.cell 0
 have d1 : w7.cell? ⟨w.heap.size, 1, none⟩ = some (.int .i64 e.num) := HE7.out.cell 1
 have d2 : w7.cell? ⟨w.heap.size, 2, none⟩ = some (.int .i64 e.tick) := HE7.out.cell 2
 have d3 : w7.cell? ⟨w.heap.size, 3, none⟩ = some (.int .i64 e.kind) := HE7.out.cell 3
 have d4 : w7.cell? ⟨w.heap.size, 4, none⟩ = some (.string e.person) := HE7.out.cell 4
 have d5 : w7.cell? ⟨w.heap.size, 5, none⟩ = some (.string e.item) := HE7.out.cell 5
 have d6 : w7.cell? ⟨w.heap.size, 6, none⟩ = some (.int .i64 e.value) := HE7.out.cell 6
 have d7 : w7.cell? ⟨w.heap.size, 7, none⟩ = some (.string e.text) := HE7.out.cell 7
 clear hw7 k67 c66 f66
 go_wp2_with fail
 refine planN_done ?_
 go_wp2_with fail
 refine HC.out.mono ?_
 rintro e' w8 ⟨rfl, τ8, h8, k8, o8⟩
 have H8 := zh h8
 have K8 := zh k8
 have O8 := zh o8
 clear h8 k8 o8 d0 d1 d2 d3 d4 d5 d6 d7
 go_wp2_with fail
 go_end0
 exact ⟨rfl, _, b, τ8, H8.out, HK7.out.trans' K8.out (fun i hi hq => by rw [← HO7.out i hi]; exact hq), fun q hq => by rw [O8.out q (Nat.lt_of_lt_of_le hq HK7.out.size)]; exact HO7.out q hq⟩
end Go.Proofs.YthdmpcnnbminlaaGreatDoor
namespace Go.Proofs.YthdmpcnnbminlaaGreatDoor
open Go.Shelf Go.RowKit Go.Maps
def LastS (W : World) (wb : Nat) (l : Ev) : Prop := World.cell? W ⟨wb, 8, none⟩ = some (.string l.src) ∧ World.cell? W ⟨wb, 9, none⟩ = some (.int .i64 l.num) ∧ World.cell? W ⟨wb, 10, none⟩ = some (.int .i64 l.tick) ∧ World.cell? W ⟨wb, 11, none⟩ = some (.int .i64 l.kind) ∧ World.cell? W ⟨wb, 12, none⟩ = some (.string l.person) ∧ World.cell? W ⟨wb, 13, none⟩ = some (.string l.item) ∧ World.cell? W ⟨wb, 14, none⟩ = some (.int .i64 l.value) ∧ World.cell? W ⟨wb, 15, none⟩ = some (.string l.text)
theorem lasts_of {W : World} {wb : Nat} {c : Cfg} {v : Value} {a : Bool} {l : Ev} {b : Wb} (h : Blk W wb 111 (wdCells c v a l b)) : LastS W wb l := ⟨h.cell 8, h.cell 9, h.cell 10, h.cell 11, h.cell 12, h.cell 13, h.cell 14, h.cell 15⟩
def AddR (τ₀ : Nat → Nat) (w : World) (wb base : Nat) (c : Cfg) (n : Nat) (es : List Ev) (S : ByteArray → Bool) (x : Ev) (e : Ending) (w' : World) : Prop := e = .returned (.int .i64 0) ∧ ∃ v b τ, WdG w' wb base c v true x b τ (n + 9) (es ++ [x]) (es ++ [x]) S (thgs (es ++ [x])) (rowsW (es ++ [x])) ∧ Kept (fun q => τ₀ q ≠ 0) w w' ∧ ∀ q, q < w.heap.size → τ q = τ₀ q
theorem wadd_any (w : World) (wb base : Nat) (c : Cfg) (v : Value) (a : Bool) (last : Ev) (b : Wb) (τ : Nat → Nat) (n : Nat) (S : ByteArray → Bool) (es : List Ev) (e : Ev) (h : WdG w wb base c v a last b τ n es es S (thgs es) (rowsW es)) (hnx : NextE es e) (hok : EvOk e) (hall : ∀ x ∈ es, EvOk x) (hlen : es.length ≤ 10000) (hn : n ≤ 700000) (hg : GlobAt w) (hgb : 2 < base) (ha : a = true → cmpE e last = 1) (hid : idB es e.src e.num = false) (hS : S e.person = false) (hk : e.kind ≠ 14) :
  Calls Tryz.prog 54 #[.pointer (some ⟨wb, 0, none⟩), evA e] w (AddR τ w wb base c n es S e) := by
 obtain ⟨A, cp, hv⟩ := own_shape h.row
 subst hv
 obtain ⟨w1, hw1⟩ : ∃ w1, w.alloc (.cells (evArr e) 31) = w1 := ⟨_, rfl⟩
 have HE1 : Hid (Blk w1 w.heap.size 31 (evArr e)) := zh (by rw [← hw1]; exact Blk.new _ _ _)
 have HB1 : Hid (Below w.heap.size w w1) := zh (by rw [← hw1]; exact (Below.refl _ _).alloc (Nat.le_refl _) _)
 have HG1 : Hid (GlobAt w1) := zh (hg.keep HB1.out (Nat.le_refl _))
 have HM := zh (may_any e w1 hok.sh HG1.out)
 rw [hok.1] at HM
 have HEB : Hid (τ w.heap.size = 0) := zh (by
  by_cases hz : τ w.heap.size = 0
  ·exact hz
  ·have := (h.low _ hz).2; omega)
 have HG := zh hg
 have HI := zh h
 have HOK := zh hok
 have HALL := zh hall
 have HNX := zh hnx
 have HID := zh hid
 have HSS := zh hS
 have HA := zh ha
 have hlb : decide ((1048576 : Int) ≤ (es.length : Int)) = false := decide_eq_false (by omega)
 have z14 : (e.kind == 14) = false := by simpa using hk
 have d0 : w1.cell? ⟨w.heap.size, 0, none⟩ = some (.string e.src) := HE1.out.cell 0
 have d1 : w1.cell? ⟨w.heap.size, 1, none⟩ = some (.int .i64 e.num) := HE1.out.cell 1
 have d2 : w1.cell? ⟨w.heap.size, 2, none⟩ = some (.int .i64 e.tick) := HE1.out.cell 2
 have d3 : w1.cell? ⟨w.heap.size, 3, none⟩ = some (.int .i64 e.kind) := HE1.out.cell 3
 have d4 : w1.cell? ⟨w.heap.size, 4, none⟩ = some (.string e.person) := HE1.out.cell 4
 have d5 : w1.cell? ⟨w.heap.size, 5, none⟩ = some (.string e.item) := HE1.out.cell 5
 have d6 : w1.cell? ⟨w.heap.size, 6, none⟩ = some (.int .i64 e.value) := HE1.out.cell 6
 have d7 : w1.cell? ⟨w.heap.size, 7, none⟩ = some (.string e.text) := HE1.out.cell 7
 clear h hnx hok hall hg hid hS hk ha
 unfold evA at HM ⊢
 unfold evArr at hw1
 go_enter Tryz.func54, Tryz.ntmps54
 go_wp2_with fail
 refine HM.out.mono ?_
 rintro e' w2 ⟨rfl, hb2⟩
 have HB2 : Hid (Below w.heap.size w w2) := zh (HB1.out.trans (hb2.mono HB1.out.size))
 have HI2 : Hid (WdG w2 wb base c (.slice A es.length cp) a last b τ n es es S (thgs es) (rowsW es)) := zh (HI.out.below HB2.out)
 have HE2 : Hid (Blk w2 w.heap.size 31 (evArr e)) := zh ((hb2.block _ HE1.out.lt).trans HE1.out)
 clear hb2 hw1 d0 d1 d2 d3 d4 d5 d6 d7 HM HI HE1 HB1
 go_upto_region 3 with fail
 go_cut [9] (fun v9 wx => v9 = .bool false ∧ Hid (Below w2.heap.size w2 wx))
 case first =>
  cases a with
  | false =>
   have c7 : w2.cell? ⟨wb, 7, none⟩ = some (.bool false) := HI2.out.blk.cell 7
   go_quiet (fail)
   go_wp2_with fail
   go_meet
   exact ⟨rfl, zh (below_drewN (Below.refl _ _) _)⟩
  | true =>
   have HCE := zh (cmpE_any e last w2.drew)
   rw [HA.out rfl] at HCE
   unfold evA at HCE
   refine wp_plan (fun W => CnS W wb 7 w.heap.size (.bool true) e ∧ LastS W wb last) [(0, false), (1, false), (2, false), (3, false), (4, false), (5, false), (6, false), (7, false), (8, false), (9, false), (10, true), (11, false), (12, false), (13, false)] (by kernel_rfl) (by kernel_rfl) ⟨cns_of HI2.out.blk.drew rfl HE2.out.drew, lasts_of HI2.out.blk.drew⟩ ?_
   simp only [planL, List.getElem?_cons_zero, List.getElem?_cons_succ]
   repeat (first | (refine plan_on _ (by rfl) (fun W hW => by (obtain ⟨⟨x8, x0, x1, x2, x3, x4, x5, x6, x7⟩, y0, y1, y2, y3, y4, y5, y6, y7⟩ := hW; go_simp; try with_reducible rfl)) ?_; simp only [Act.put, xq1, xq2, xq3]) | (refine plan_off (by rfl) ?_; simp only [Act.put, xq1, xq2, xq3]))
   refine plan_turn ?_
   go_wp2_with fail
   refine HCE.out.mono ?_
   rintro e' w3 ⟨rfl, hb3⟩
   have HB3 : Hid (Below w2.heap.size w2 w3) := zh (below_from 1 hb3)
   clear hb3 HCE
   go_wp2_with fail
   refine ⟨⟨cns_of ((HB3.out.block _ HI2.out.blk.lt).trans HI2.out.blk) rfl ((HB3.out.block _ HE2.out.lt).trans HE2.out), lasts_of ((HB3.out.block _ HI2.out.blk.lt).trans HI2.out.blk)⟩, ?_⟩
   repeat (first | (refine plan_on _ (by rfl) (fun W hW => by (obtain ⟨⟨x8, x0, x1, x2, x3, x4, x5, x6, x7⟩, y0, y1, y2, y3, y4, y5, y6, y7⟩ := hW; go_simp; try with_reducible rfl)) ?_; simp only [Act.put, xq1, xq2, xq3]) | (refine plan_off (by rfl) ?_; simp only [Act.put, xq1, xq2, xq3]))
   refine plan_done ?_
   go_wp2_with fail
   go_meet
   exact ⟨rfl, HB3⟩
 case rest =>
 obtain ⟨rfl, HBC⟩ := hcut
 obtain ⟨w3, rfl⟩ : ∃ w3 : World, w3 = wc := ⟨_, rfl⟩
 have HB3 : Hid (Below w.heap.size w w3) := zh (HB2.out.trans (HBC.out.mono HB2.out.size))
 have HI3 : Hid (WdG w3 wb base c (.slice A es.length cp) a last b τ n es es S (thgs es) (rowsW es)) := zh (HI2.out.below HBC.out)
 have HE3 : Hid (Blk w3 w.heap.size 31 (evArr e)) := zh ((HBC.out.block _ HE2.out.lt).trans HE2.out)
 have HG3 : Hid (GlobAt w3) := zh (HG.out.keep HB3.out (Nat.le_refl _))
 obtain ⟨Ma, hMa, hMaI⟩ := HI3.out.add
 have HMA := zh hMa
 have hsz : e.src.size ≤ maxLen := by have := HOK.out.2.1; unfold maxLen; omega
 have hpz : e.person.size ≤ maxLen := by have := HOK.out.2.2.1; unfold maxLen; omega
 have HIR : Hid (InR e.num) := zh (by have := (may_parts HOK.out.1).2.1; unfold InR; omega)
 have HMV : Hid ((Ma (litI e.src e.num)).getD (.bool false) = .bool false) := zh (by rw [hMaI _ _ hsz HIR.out]; unfold idF; rw [HID.out]; rfl)
 have HLK : Hid (∀ W, (CnS W wb 16 w.heap.size (.map (some b.ab)) e ∧ MapIs Tryz.prog 172 okBool W b.ab n Ma) → CnS W wb 16 w.heap.size (.map (some b.ab)) e ∧ (Instr.lookup 104 (.map (some b.ab)) (.agg #[.string e.src, .int .i64 e.num]) false).run Tryz.prog W = .ok (.bool false) W) := zh (fun W h => ⟨h.1, by
  have := h.2.look idnKeyed Tryz.underlying104 (zeroBool W) rfl (idn_keyOf e.src e.num hsz HIR.out)
  rw [HMV.out] at this
  exact this⟩)
 have HS3 : Hid (CnS w3.drew wb 16 w.heap.size (.map (some b.ab)) e ∧ MapIs Tryz.prog 172 okBool w3.drew b.ab n Ma) := zh ⟨cns_of HI3.out.blk.drew rfl HE3.out.drew, HMA.out.drew⟩
 clear hMa hMaI HB2 HI2 HE2 HBC
 go_wp2_with fail
 refine wp_plan (fun W => CnS W wb 16 w.heap.size (.map (some b.ab)) e ∧ MapIs Tryz.prog 172 okBool W b.ab n Ma) [(0, false), (1, false), (2, false), (3, false), (4, false), (5, false), (6, false), (7, false), (8, false), (9, false), (10, false)] (by kernel_rfl) (by kernel_rfl) HS3.out ?_
 simp only [planL, List.getElem?_cons_zero, List.getElem?_cons_succ]
 repeat (first | (refine plan_on _ (by rfl) (fun W hW => by (obtain ⟨⟨x8, x0, x1, x2, x3, x4, x5, x6, x7⟩, hlk⟩ := HLK.out W hW; go_simp; try with_reducible rfl)) ?_; simp only [Act.put, xq1, xq2, xq3]) | (refine plan_off (by rfl) ?_; simp only [Act.put, xq1, xq2, xq3]))
 refine plan_done ?_
 obtain ⟨w4, hw4⟩ : ∃ z, w3.drew = z := ⟨_, rfl⟩
 have k34 : Kept (fun _ => False) w3 w4 := by rw [← hw4]; exact (Kept.refl _ _).drew
 have HI4 : Hid (WdG w4 wb base c (.slice A es.length cp) a last b τ n es es S (thgs es) (rowsW es)) := zh (HI3.out.kept k34 (fun _ h => h.elim))
 have HE4 : Hid (Blk w4 w.heap.size 31 (evArr e)) := zh (HE3.out.kept k34 (fun h => h))
 have HG4 : Hid (GlobAt w4) := zh (HG3.out.kept k34 (fun _ _ h => h))
 have HK4 : Hid (Kept (fun _ => False) w w4) := zh ((below_kept HB3.out (Nat.le_refl _)).trans k34)
 rw [hw4]
 clear k34 hw4 HI3 HE3 HG3 HLK HS3 HMA HMV HB3
 have HLK : Hid (∀ W, (CnS W wb 17 w.heap.size (.map (some b.fb)) e ∧ MapIs Tryz.prog 9 okBool W b.fb n (mapG (stG S))) → CnS W wb 17 w.heap.size (.map (some b.fb)) e ∧ (Instr.lookup 105 (.map (some b.fb)) (.string e.person) false).run Tryz.prog W = .ok (.bool false) W) := zh (fun W h => ⟨h.1, by
  have := h.2.look (string_keyed Tryz.underlying9) Tryz.underlying105 (zeroBool W) rfl (WideMaps.keyOf_string_mk Tryz.underlying9 hpz)
  rw [mapG_at, show stG S e.person = none from by unfold stG; rw [HSS.out]; rfl] at this
  exact this⟩)
 have HS4 : Hid (CnS w4.drew wb 17 w.heap.size (.map (some b.fb)) e ∧ MapIs Tryz.prog 9 okBool w4.drew b.fb n (mapG (stG S))) := zh ⟨cns_of HI4.out.blk.drew rfl HE4.out.drew, HI4.out.fgt.drew⟩
 go_wp2_with fail
 refine wp_plan (fun W => CnS W wb 17 w.heap.size (.map (some b.fb)) e ∧ MapIs Tryz.prog 9 okBool W b.fb n (mapG (stG S))) [(0, false), (1, false), (2, false), (3, false), (4, false), (5, false), (6, false), (7, false), (8, false), (9, false), (10, false), (11, false), (12, false)] (by kernel_rfl) (by kernel_rfl) HS4.out ?_
 simp only [planL, List.getElem?_cons_zero, List.getElem?_cons_succ]
 repeat (first | (refine plan_on _ (by rfl) (fun W hW => by (obtain ⟨⟨x8, x0, x1, x2, x3, x4, x5, x6, x7⟩, hlk⟩ := HLK.out W hW; go_simp; try with_reducible rfl)) ?_; simp only [Act.put, xq1, xq2, xq3]) | (refine plan_off (by rfl) ?_; simp only [Act.put, xq1, xq2, xq3]))
 refine plan_done ?_
 obtain ⟨w5, hw5⟩ : ∃ z, w4.drew = z := ⟨_, rfl⟩
 have k45 : Kept (fun _ => False) w4 w5 := by rw [← hw5]; exact (Kept.refl _ _).drew
 have HI5 : Hid (WdG w5 wb base c (.slice A es.length cp) a last b τ n es es S (thgs es) (rowsW es)) := zh (HI4.out.kept k45 (fun _ h => h.elim))
 have HE5 : Hid (Blk w5 w.heap.size 31 (evArr e)) := zh (HE4.out.kept k45 (fun h => h))
 have HG5 : Hid (GlobAt w5) := zh (HG4.out.kept k45 (fun _ _ h => h))
 have HK5 : Hid (Kept (fun _ => False) w w5) := zh (HK4.out.trans k45)
 rw [hw5]
 clear k45 hw5 HI4 HE4 HG4 HLK HS4 HK4
 have HP := zh (wput_any w5 wb base c (.slice A es.length cp) a last b τ n S es e HI5.out HNX.out HOK.out HALL.out hlen hn HG5.out hgb)
 unfold evA at HP
 have c6 : w5.cell? ⟨wb, 6, none⟩ = some (.slice A es.length cp) := HI5.out.blk.cell 6
 have d0 : w5.cell? ⟨w.heap.size, 0, none⟩ = some (.string e.src) := HE5.out.cell 0
 have d1 : w5.cell? ⟨w.heap.size, 1, none⟩ = some (.int .i64 e.num) := HE5.out.cell 1
 have d2 : w5.cell? ⟨w.heap.size, 2, none⟩ = some (.int .i64 e.tick) := HE5.out.cell 2
 have d3 : w5.cell? ⟨w.heap.size, 3, none⟩ = some (.int .i64 e.kind) := HE5.out.cell 3
 have d4 : w5.cell? ⟨w.heap.size, 4, none⟩ = some (.string e.person) := HE5.out.cell 4
 have d5 : w5.cell? ⟨w.heap.size, 5, none⟩ = some (.string e.item) := HE5.out.cell 5
 have d6 : w5.cell? ⟨w.heap.size, 6, none⟩ = some (.int .i64 e.value) := HE5.out.cell 6
 have d7 : w5.cell? ⟨w.heap.size, 7, none⟩ = some (.string e.text) := HE5.out.cell 7
 go_wp2_with fail
 refine HP.out.mono ?_
 rintro e' w6 ⟨rfl, v6, b6, τ6, h6, k6, o6⟩
 have H6 := zh h6
 have K6 := zh k6
 have O6 := zh o6
 clear o6
 have d3' : w6.cell? ⟨w.heap.size, 3, none⟩ = some (.int .i64 e.kind) := (HE5.out.kept k6 (fun hq => hq HEB.out)).cell 3
 clear h6 k6 c6 d0 d1 d2 d3 d4 d5 d6 d7 HP
 go_wp2_with fail
 go_ret
 exact ⟨rfl, v6, b6, τ6, H6.out, (HK5.out.mono (fun _ _ h => h.elim)).trans K6.out, fun q hq => O6.out q (Nat.lt_of_lt_of_le hq HK5.out.size)⟩
end Go.Proofs.YthdmpcnnbminlaaGreatDoor
