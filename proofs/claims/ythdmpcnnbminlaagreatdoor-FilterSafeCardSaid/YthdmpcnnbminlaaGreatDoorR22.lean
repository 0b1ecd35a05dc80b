/- A part of the joined base. -/
import Derived.Test.YthdmpcnnbminlaaGreatDoorR01
import Derived.Test.YthdmpcnnbminlaaGreatDoorR21
set_option linter.unusedVariables false
set_option maxHeartbeats 8000000
set_option maxRecDepth 100000
namespace Go.Proofs.YthdmpcnnbminlaaGreatDoor.Ru
open Go.RowKit Go.Maps Go.Shelf
variable {L : Nat}
theorem fail_bad (pb en d at_ : Nat) (ts : List Tk) (w : World) (h : PsAt w pb L ts en d true at_) :
  Calls Tryz.prog 82 #[.pointer (some ⟨pb, 0, none⟩)] w fun e w' => e = .returned .nilIface ∧ Below w.heap.size w w' := by
 obtain ⟨A, n, c, h⟩ := h
 have c3 : w.cell? ⟨pb, 3, none⟩ = some (.bool true) := h.blk.cell 3
 clear h
 go_enter Tryz.func82, Tryz.ntmps82
 go_wp2_with fail
 go_ret
 exact ⟨rfl, Below.refl _ _⟩
theorem PsAt.deep {w : World} {pb en d d' at_ : Nat} {ts : List Tk} {bad : Bool} (h : PsAt w pb L ts en d bad at_) : PsAt (w.setCell ⟨pb, 2, none⟩ (.int .i64 d')) pb L ts en d' bad at_ := by
 obtain ⟨A, n, c, h⟩ := h
 exact ⟨A, n, c, h.set 2 (.int .i64 d') (by simp)⟩
theorem PsAt.deep_is {w : World} {pb en d at_ : Nat} {ts : List Tk} {bad : Bool} (h : PsAt w pb L ts en d bad at_) : w.cell? ⟨pb, 2, none⟩ = some (.int .i64 d) ∧ w.frozen? ⟨pb, 2, none⟩ = false := by
 obtain ⟨A, n, c, h⟩ := h
 exact ⟨h.blk.cell 2, h.blk.frozen 2⟩
structure ParIs (k B pb L en d at_ : Nat) (ts : List Tk) (w w' : World) (v : Value) (ok : Bool) (ts1 : List Tk) (ns : List Nd) (at1 : Nat) : Prop where
 par : P k d (tx ts) ok (tx ts1) ns
 less : ts1.length ≤ ts.length
 drop : ∃ j, ts1 = ts.drop j
 okv : Okv w' B (1 + ts.length - ts1.length) v
 ps : PsAt w' pb L ts1 en d (!ok) at1
 at1 : at1 = if ok then at_ else place ts1 en
 nd : ok = true → NdAt w' B (nodeOf k ns) v
 kept : Kept (fun i => i = pb) w w'
def ParPost (k B pb L en d at_ : Nat) (ts : List Tk) (w : World) (e : Ending) (w' : World) : Prop := ∃ v ok ts1 ns at1, e = .returned v ∧ ParIs k B pb L en d at_ ts w w' v ok ts1 ns at1
def ParOk (f : FuncId) (k : Nat) (ts : List Tk) : Prop := ∀ (B pb L en d at_ : Nat) (w : World), pb < B → L ≤ B → B ≤ w.heap.size → d ≤ 40 → ts.length ≤ 3000 → (∀ t ∈ ts, t.1.size ≤ 3000) → PsAt w pb L ts en d false at_ → (∀ V, Below pb w V → ErrAt V ∧ TabAt V) → Calls Tryz.prog f #[.pointer (some ⟨pb, 0, none⟩)] w fun e w' => ParPost k B pb L en d at_ ts w e w'
theorem below_kept {w w' : World} {S : Nat → Prop} (k : Below w.heap.size w w') : Kept S w w' := (Kept.refl S w).below k (Nat.le_refl _)
theorem hd_cons {ts : List Tk} {c : ByteArray} (h : hd (tx ts) = c) (hc : c ≠ ⟨#[]⟩) : ∃ t r, ts = t :: r ∧ t.1 = c ∧ tx ts = c :: tx r := by
 cases ts with
 | nil => exact absurd h.symm hc
 | cons t r =>
  have h1 : t.1 = c := h
  exact ⟨t, r, rfl, h1, by simp [tx, h1]⟩
theorem hd_size {ts : List Tk} (h : ∀ t ∈ ts, t.1.size ≤ 3000) : (hd (tx ts)).size ≤ 3000 := by
 cases ts with
 | nil => exact Nat.zero_le _
 | cons t r => exact h t (by simp)
theorem atom_of (ts : List Tk) (hor : ∀ ts', ts'.length < ts.length → ParOk 81 0 ts') (hnn : hd (tx ts) ≠ notW) : ParOk 204 2 ts := by
 intro B pb L en d at_ w hpb hLB hB hd40 hlen hsz hps hge
 have HOR := zh hor
 have HNN := zh hnn
 have HSZ := zh hsz
 have HGE := zh hge
 have HPS := zh hps
 have HNX := zh (next_any pb en d at_ ts w hps)
 clear hor hnn hsz hge hps
 obtain ⟨wd, hwd⟩ : ∃ wd, hd (tx ts) = wd := ⟨_, rfl⟩
 have HWD := zh hwd
 have hwz : wd.size ≤ 3000 := by rw [← hwd]; exact hd_size HSZ.out
 rw [hwd] at HNX
 clear hwd
 go_enter Tryz.func204, Tryz.ntmps204
 go_wp2_with fail
 refine HNX.out.mono ?_
 rintro e w1 ⟨rfl, hb1⟩
 have HB1 := zh hb1
 have HPS1 : Hid (PsAt w1 pb L ts en d false at_) := zh (HPS.out.below hb1)
 have HPL : Hid (pb < w.heap.size) := zh HPS.out.lt
 have HG1 : Hid (ErrAt w1 ∧ TabAt w1) := zh (HGE.out w1 (hb1.mono (Nat.le_of_lt HPS.out.lt)))
 clear hb1
 by_cases hop : wd = openW
 rotate_left
 ·have q1 : (wd.toList == [40]) = false := lit_no hop
  have HLF := zh (leaf_any wd w1 hwz HG1.out.1 HG1.out.2)
  go_wp2_with fail
  refine HLF.out.mono ?_
  rintro e w2 ⟨hlp, hb2⟩
  have HB2 : Hid (Below w.heap.size w w2) := zh (HB1.out.trans (hb2.mono HB1.out.size))
  have HPS2 : Hid (PsAt w2 pb L ts en d false at_) := zh (HPS1.out.below hb2)
  clear hb2 HLF
  rcases hlp with ⟨a, ha, rfl⟩ | ⟨hno, v, rfl⟩
  ·obtain ⟨t, r, rfl, ht1, htx⟩ := hd_cons HWD.out (fun e => leaf_no (Or.inr (Or.inr (Or.inr (Or.inr (Or.inr e))))) a ha)
   have HTK := zh (take_any pb en d at_ t r w2 HPS2.out)
   have HFIN : Hid (∀ w', PsAt w' pb L r en d false at_ → Kept (fun i => i = pb) w2 w' → ParPost 2 B pb L en d at_ (t :: r) w (.returned (leafV a)) w') := zh (fun w' hp hk => by
    refine ⟨leafV a, true, r, [.atom a], at_, rfl, ⟨?_, by simp, ⟨1, rfl⟩, (Okv.leaf w' B a).mono (by simp; omega), hp, rfl, fun _ => .atom a, (below_kept HB2.out).trans' hk (fun i _ hi => hi)⟩⟩
    have h1 := P.leaf (d := d) (L := tx (t :: r)) (a := a) (by rw [HWD.out]; exact ha)
    exact h1)
   clear ha htx ht1 hop
   go_wp2_with fail
   refine HTK.out.mono ?_
   rintro e w3 ⟨rfl, hp3, hk3⟩
   have HX := zh (HFIN.out w3 hp3 hk3)
   clear HFIN hp3 hk3
   go_wp2_with fail
   go_ret
   exact HX.out
  ·have HFL := zh (fail_any pb en d at_ ts w2 HPS2.out)
   have HFIN : Hid (∀ w', PsAt w' pb L ts en d true (place ts en) → Kept (fun i => i = pb) w2 w' → ParPost 2 B pb L en d at_ ts w (.returned .nilIface) w') := zh (fun w' hp hk => by
    refine ⟨.nilIface, false, ts, [], place ts en, rfl, ⟨?_, Nat.le_refl _, ⟨0, rfl⟩, (Okv.nil w' B).mono (by omega), hp, rfl, fun h => (by cases h), (below_kept HB2.out).trans' hk (fun i _ hi => hi)⟩⟩
    exact P.bad HNN.out (fun h => hop (HWD.out.symm.trans h.1)) (fun a ha => hno a (by rw [← HWD.out]; exact ha)))
   clear hno hop
   go_wp2_with fail
   refine HFL.out.mono ?_
   rintro e w3 ⟨rfl, hp3, hk3⟩
   have HX := zh (HFIN.out w3 hp3 hk3)
   clear HFIN hp3 hk3
   go_wp2_with fail
   go_ret
   exact HX.out
 have q1 : (wd.toList == [40]) = true := lit_yes hop
 have HOP := zh (HWD.out.trans hop)
 clear hop
 obtain ⟨k2, f2⟩ := HPS1.out.deep_is
 by_cases hd4 : d = 40
 ·have q2 : ((d : Int) == 40) = true := by rw [beq_iff_eq]; omega
  have HFL := zh (fail_any pb en d at_ ts w1 HPS1.out)
  have HFIN : Hid (∀ w', PsAt w' pb L ts en d true (place ts en) → Kept (fun i => i = pb) w1 w' → ParPost 2 B pb L en d at_ ts w (.returned .nilIface) w') := zh (fun w' hp hk => by
   refine ⟨.nilIface, false, ts, [], place ts en, rfl, ⟨?_, Nat.le_refl _, ⟨0, rfl⟩, (Okv.nil w' B).mono (by omega), hp, rfl, fun h => (by cases h), (below_kept HB1.out).trans' hk (fun i _ hi => hi)⟩⟩
   exact P.bad HNN.out (fun h => by omega) (fun a ha => leaf_no (Or.inr (Or.inl HOP.out)) a ha))
  clear hd4
  go_wp2_with fail
  refine HFL.out.mono ?_
  rintro e w3 ⟨rfl, hp3, hk3⟩
  have HX := zh (HFIN.out w3 hp3 hk3)
  clear HFIN hp3 hk3
  go_wp2_with fail
  go_ret
  exact HX.out
 have q2 : ((d : Int) == 40) = false := by rw [beq_eq_false_iff_ne]; omega
 have hdl : d < 40 := by omega
 clear hd4
 obtain ⟨t, r, rfl, ht1, htx⟩ := hd_cons HOP.out (by decide)
 have HTX := zh htx
 have HTK := zh (take_any pb en d at_ t r w1 HPS1.out)
 clear ht1 htx
 go_wp2_with fail
 refine HTK.out.mono ?_
 rintro e w2 ⟨rfl, hp2, hk2⟩
 have HP2 := zh hp2
 have HK2 : Hid (Kept (fun i => i = pb) w w2) := zh ((below_kept HB1.out).trans' hk2 (fun i _ hi => hi))
 clear hp2 hk2 HTK q1 q2 k2 f2
 obtain ⟨k2, f2⟩ := HP2.out.deep_is
 have hdw : IntKind.i64.wrap ((d : Int) + 1) = (d : Int) + 1 := by rw [IntKind.wrap_i64]; omega
 obtain ⟨w3, hw3⟩ : ∃ w3, w2.setCell ⟨pb, 2, none⟩ (.int .i64 ((d : Int) + 1)) = w3 := ⟨_, rfl⟩
 have HP3 : Hid (PsAt w3 pb L r en (d + 1) false at_) := zh (by rw [← hw3]; have := HP2.out.deep (d' := d + 1); push_cast at this; exact this)
 have HK3 : Hid (Kept (fun i => i = pb) w w3) := zh (by rw [← hw3]; exact HK2.out.setCell (p := ⟨pb, 2, none⟩) (Or.inl rfl) _)
 have hlr : r.length ≤ 3000 := by simp at hlen; omega
 have HBP : Hid (∀ {V : World}, Kept (fun i => i = pb) w V → Below pb w V) := zh (fun k => k.toBelow (fun i hi => by omega) (Nat.le_of_lt HPL.out))
 have HCO := zh (HOR.out r (by simp) B pb L en (d + 1) at_ w3 hpb hLB (Nat.le_trans hB HK3.out.size) (by omega) hlr (fun x hx => HSZ.out x (by simp [hx])) HP3.out (fun V hV => HGE.out V ((HBP.out HK3.out).trans hV)))
 go_wp2_with fail
 clear hw3 k2 f2 hdw
 refine HCO.out.mono ?_
 rintro e w4 ⟨v, ok, ts1, ns, at1, rfl, hpi⟩
 have HPI := zh hpi
 clear hpi HCO
 obtain ⟨k2, f2⟩ := HPI.out.ps.deep_is
 have hdw : IntKind.i64.wrap (d : Int) = (d : Int) := by rw [IntKind.wrap_i64]; omega
 obtain ⟨w5, hw5⟩ : ∃ w5, w4.setCell ⟨pb, 2, none⟩ (.int .i64 (d : Int)) = w5 := ⟨_, rfl⟩
 have HP5 : Hid (PsAt w5 pb L ts1 en d (!ok) at1) := zh (by rw [← hw5]; exact HPI.out.ps.deep (d' := d))
 have HK5 : Hid (Kept (fun i => i = pb) w w5) := zh (by rw [← hw5]; exact (HK3.out.trans' HPI.out.kept (fun i _ hi => hi)).setCell (p := ⟨pb, 2, none⟩) (Or.inl rfl) _)
 have HK45 : Hid (Kept (fun i => i = pb) w4 w5) := zh (by rw [← hw5]; exact (Kept.refl (fun i => i = pb) w4).setCell (p := ⟨pb, 2, none⟩) (Or.inl rfl) _)
 have HLS : Hid (ts1.length ≤ (t :: r).length ∧ ∃ j, ts1 = (t :: r).drop j) := zh ⟨by have := HPI.out.less; simp; omega, by obtain ⟨j, hj⟩ := HPI.out.drop; exact ⟨j + 1, hj⟩⟩
 have HTL : Hid ((tx (t :: r)).tail = tx r) := zh rfl
 cases ok
 ·have HNX5 := zh (next_bad pb en d at1 ts1 w5 HP5.out)
  have HFIN : Hid (∀ w', Below w5.heap.size w5 w' → ParPost 2 B pb L en d at_ (t :: r) w (.returned .nilIface) w') := zh (fun w' hb => by
   refine ⟨.nilIface, false, ts1, [], at1, rfl, ⟨?_, HLS.out.1, HLS.out.2, (Okv.nil w' B).mono (by have := HLS.out.1; omega), HP5.out.below hb, HPI.out.at1, fun h => (by cases h), HK5.out.below hb HK5.out.size⟩⟩
   exact P.openBad HOP.out hdl HPI.out.par (Or.inl rfl))
  go_wp2_with fail
  refine HNX5.out.mono ?_
  rintro e w6 ⟨rfl, hb6⟩
  have HB6 := zh hb6
  have HFB := zh (fail_bad pb en d at1 ts1 w6 (HP5.out.below hb6))
  clear hb6 hw5 k2 f2 hdw
  go_wp2_with fail
  refine HFB.out.mono ?_
  rintro e w7 ⟨rfl, hb7⟩
  have HX := zh (HFIN.out w7 (HB6.out.trans (hb7.mono HB6.out.size)))
  clear HFIN hb7
  go_wp2_with fail
  go_ret
  exact HX.out
 ·have HNX5 := zh (next_any pb en d at1 ts1 w5 HP5.out)
  obtain ⟨wc, hwc⟩ : ∃ wc, hd (tx ts1) = wc := ⟨_, rfl⟩
  have HWC := zh hwc
  rw [hwc] at HNX5
  clear hwc
  go_wp2_with fail
  refine HNX5.out.mono ?_
  rintro e w6 ⟨rfl, hb6⟩
  have HB6 := zh hb6
  have HP6 : Hid (PsAt w6 pb L ts1 en d false at1) := zh (HP5.out.below hb6)
  have HK6 : Hid (Kept (fun i => i = pb) w w6) := zh (HK5.out.below hb6 HK5.out.size)
  have HA1 : Hid (at1 = at_) := zh (by have := HPI.out.at1; simpa using this)
  clear hb6 hw5 k2 f2 hdw
  by_cases hcl : wc = closeW
  ·have q3 : (wc.toList == [41]) = true := lit_yes hcl
   obtain ⟨t2, r2, rfl, _, htx2⟩ := hd_cons (HWC.out.trans hcl) (by decide)
   have HTX2 := zh htx2
   have HHC := zh (HWC.out.trans hcl)
   have HT6 := zh (take_any pb en d at1 t2 r2 w6 HP6.out)
   have HFIN : Hid (∀ w', PsAt w' pb L r2 en d false at1 → Kept (fun i => i = pb) w6 w' → ParPost 2 B pb L en d at_ (t :: r) w (.returned v) w') := zh (fun w' hp hk => by
    have hk4 : Kept (fun i => i = pb) w4 w' := (HK45.out.below HB6.out HK45.out.size).trans' hk (fun i _ hi => hi)
    refine ⟨v, true, r2, [nodeOf 0 ns], at1, rfl, ⟨?_, by have := HLS.out.1; simp at this ⊢; omega, ?_, ?_, hp, HA1.out, fun _ => ?_, HK6.out.trans' hk (fun i _ hi => hi)⟩⟩
    ·have h1 := P.open_ HOP.out hdl HPI.out.par HHC.out
     rw [HTX2.out] at h1
     exact h1
    ·obtain ⟨j, hj⟩ := HLS.out.2
     exact ⟨j + 1, by rw [← List.tail_drop, ← hj]; rfl⟩
    ·refine (HPI.out.okv.keep hk4.size (fun i hi hB => hk4.block i hi (fun e => by omega))).mono ?_
     have := HPI.out.less
     simp at this ⊢
     omega
    ·exact (HPI.out.nd rfl).kept hk4 (fun i hi => by omega))
   clear hcl htx2
   go_wp2_with fail
   refine HT6.out.mono ?_
   rintro e w7 ⟨rfl, hp7, hk7⟩
   have HX := zh (HFIN.out w7 hp7 hk7)
   clear HFIN hp7 hk7
   go_wp2_with fail
   go_ret
   exact HX.out
  ·have q3 : (wc.toList == [41]) = false := lit_no hcl
   have HFL := zh (fail_any pb en d at1 ts1 w6 HP6.out)
   have HFIN : Hid (∀ w', PsAt w' pb L ts1 en d true (place ts1 en) → Kept (fun i => i = pb) w6 w' → ParPost 2 B pb L en d at_ (t :: r) w (.returned .nilIface) w') := zh (fun w' hp hk => by
    refine ⟨.nilIface, false, ts1, [], place ts1 en, rfl, ⟨?_, HLS.out.1, HLS.out.2, (Okv.nil w' B).mono (by have := HLS.out.1; omega), hp, rfl, fun h => (by cases h), HK6.out.trans' hk (fun i _ hi => hi)⟩⟩
    exact P.openBad HOP.out hdl HPI.out.par (Or.inr (fun e => hcl (HWC.out.symm.trans e))))
   clear hcl
   go_wp2_with fail
   refine HFL.out.mono ?_
   rintro e w7 ⟨rfl, hp7, hk7⟩
   have HX := zh (HFIN.out w7 hp7 hk7)
   clear HFIN hp7 hk7
   go_wp2_with fail
   go_ret
   exact HX.out
theorem not_of (ts : List Tk) (hor : ∀ ts', ts'.length < ts.length → ParOk 81 0 ts') (hno : ∀ ts', ts'.length < ts.length → ParOk 170 2 ts') : ParOk 170 2 ts := by
 intro B pb L en d at_ w hpb hLB hB hd40 hlen hsz hps hge
 have HOR := zh hor
 have HNO := zh hno
 have HSZ := zh hsz
 have HGE := zh hge
 have HPS := zh hps
 have HNX := zh (next_any pb en d at_ ts w hps)
 clear hor hno hsz hge hps
 obtain ⟨wd, hwd⟩ : ∃ wd, hd (tx ts) = wd := ⟨_, rfl⟩
 have HWD := zh hwd
 rw [hwd] at HNX
 clear hwd
 go_enter Tryz.func170, Tryz.ntmps170
 go_wp2_with fail
 refine HNX.out.mono ?_
 rintro e w1 ⟨rfl, hb1⟩
 have HB1 := zh hb1
 have HPS1 : Hid (PsAt w1 pb L ts en d false at_) := zh (HPS.out.below hb1)
 have HPL : Hid (pb < w.heap.size) := zh HPS.out.lt
 clear hb1
 by_cases hnt : wd = notW
 rotate_left
 ·have q1 : (wd.toList == [110, 111, 116]) = false := lit_no hnt
  have HAT := zh (atom_of ts HOR.out (fun e => hnt (HWD.out.symm.trans e)) B pb L en d at_ w1 hpb hLB (Nat.le_trans hB HB1.out.size) hd40 hlen HSZ.out HPS1.out (fun V hV => HGE.out V ((HB1.out.mono (Nat.le_of_lt HPL.out)).trans hV)))
  clear hnt
  go_wp2_with fail
  refine HAT.out.mono ?_
  rintro e w4 ⟨v, ok, ts1, ns, at1, rfl, hpi⟩
  have HPI := zh hpi
  clear hpi HAT
  go_wp2_with fail
  go_ret
  obtain ⟨i1, i2, i3, i4, i5, i6, i7, i8⟩ := HPI.out
  exact ⟨v, ok, ts1, ns, at1, rfl, ⟨i1, i2, i3, i4, i5, i6, i7, (below_kept HB1.out).trans' i8 (fun i _ hi => hi)⟩⟩
 have q1 : (wd.toList == [110, 111, 116]) = true := lit_yes hnt
 have HNT := zh (HWD.out.trans hnt)
 clear hnt
 obtain ⟨t, r, rfl, ht1, htx⟩ := hd_cons HNT.out (by decide)
 have HTX := zh htx
 have HTK := zh (take_any pb en d at_ t r w1 HPS1.out)
 clear ht1 htx
 go_wp2_with fail
 refine HTK.out.mono ?_
 rintro e w2 ⟨rfl, hp2, hk2⟩
 have HP2 := zh hp2
 have HK2 : Hid (Kept (fun i => i = pb) w w2) := zh ((below_kept HB1.out).trans' hk2 (fun i _ hi => hi))
 clear hp2 hk2 HTK q1
 have hlr : r.length ≤ 3000 := by simp at hlen; omega
 have HBP : Hid (∀ {V : World}, Kept (fun i => i = pb) w V → Below pb w V) := zh (fun k => k.toBelow (fun i hi => by omega) (Nat.le_of_lt HPL.out))
 have HCO := zh (HNO.out r (by simp) B pb L en d at_ w2 hpb hLB (Nat.le_trans hB HK2.out.size) hd40 hlr (fun x hx => HSZ.out x (by simp [hx])) HP2.out (fun V hV => HGE.out V ((HBP.out HK2.out).trans hV)))
 go_wp2_with fail
 refine HCO.out.mono ?_
 rintro e w4 ⟨v, ok, ts1, ns, at1, rfl, hpi⟩
 have HPI := zh hpi
 have HFIN : Hid (ParPost 2 B pb L en d at_ (t :: r) w (.returned (.iface 280 (.agg #[v]))) w4) := zh (by
  obtain ⟨i1, i2, ⟨j, i3⟩, i4, i5, i6, i7, i8⟩ := hpi
  refine ⟨_, ok, ts1, [.no (nodeOf 2 ns)], at1, rfl, ⟨P.no HNT.out i1, by simp; omega, ⟨j + 1, i3⟩, (Okv.no v).mono (by simp; omega), i5, i6, fun h => .no (i7 h), HK2.out.trans' i8 (fun i _ hi => hi)⟩⟩)
 have hvf : v = .nilIface ∨ ∃ t x, v = .iface t x := by
  obtain ⟨_, _, h2 | ⟨t, y, e', _⟩ | ⟨k', A', m', c', xs', _, e', _⟩⟩ := hpi.okv
  ·exact Or.inl h2
  ·exact Or.inr ⟨_, _, e'⟩
  ·exact Or.inr ⟨_, _, e'⟩
 clear hpi HCO HPI
 rcases hvf with rfl | ⟨tv, xv, rfl⟩
 ·go_wp2_with fail
  go_ret
  exact HFIN.out
 ·go_wp2_with fail
  go_ret
  exact HFIN.out
end Go.Proofs.YthdmpcnnbminlaaGreatDoor.Ru
