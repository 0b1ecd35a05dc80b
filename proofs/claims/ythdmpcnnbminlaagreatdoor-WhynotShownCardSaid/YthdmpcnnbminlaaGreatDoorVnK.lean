/- WhynotShown: the walk. -/
import Derived.Test.YthdmpcnnbminlaaGreatDoorVnN
namespace Go.Proofs.YthdmpcnnbminlaaGreatDoor
open Go.Shelf Go.RowKit Go.Maps
open Ru (Fz fzA fzX Nd holdsR RuleV ruleT Says errOf ErrAt TabAt)
set_option linter.unusedVariables false
set_option maxHeartbeats 8000000 in
set_option maxRecDepth 100000 in
theorem whynotShown_walk (A:Option Addr) (n cp:Nat) (l:List Ev) (x:Sm) (p i:ByteArray) (now:Int) (w:World) (h:PlayIn w A n cp l x p i now):Calls Tryz.prog 12 #[plA A n cp x p i now] w (TrueR w):=by
 obtain⟨⟨hn,hev,hbig,hnil,hbd⟩,hlib,hsm,hpz,hiz,hnow⟩:=h
 obtain⟨w1,hw1⟩:∃w1,w.alloc (.cells (plArr A n cp x p i now) 74)=w1:=⟨_,rfl⟩
 have HX1:Hid (Blk w1 w.heap.size 74 (plArr A n cp x p i now)):=zh (by rw[←hw1];exact Blk.new _ _ _)
 have HB1:Hid (Below w.heap.size w w1):=zh (by rw[←hw1];exact (Below.refl _ _).alloc (zr _) _)
 have HLB:Hid (∀W,Below w.heap.size w W→Lb2 W):=zh (fun W hb=>hlib.keep hb)
 have HC:=zh (few41_any A n cp l x p i now w1 ⟨hn,RowIn.more (hev.below HB1.o) HB1.o.size,hbig,hnil,hbd⟩ (by unfold maxLen;omega) (by unfold maxLen;omega))
 have HEV:=zh (And.intro hn hev)
 have HSM:=zh hsm
 have HNOW:=zh hnow
 have HTO:Hid (p.size≤60→i.size≤60→∀W,Calls Tryz.prog 42 #[plA A n cp x p i now] W fun e w'=>e = .returned (.bool (toldB p i now))∧Below W.heap.size W w'):=zh (fun h1 h2 W=>told41_any A n cp x p i now W h1 h2)
 obtain⟨pa,hpa⟩:∃pa,plArr A n cp x p i now=pa:=⟨_,rfl⟩
 have HPA:=zh hpa
 unfold plA at HC HTO ⊢
 rw[hpa]at hw1 HX1 HC HTO ⊢
 have HPI:Hid ((Tryz.prog.info? 74).map (·.size)=some pa.size):=zh (by rw[←hpa];exact play_info)
 clear hn hev hbig hnil hbd hlib hsm hpz hiz hnow hpa
 go_enter Tryz.func12,Tryz.ntmps12
 go_wp2_with (first
  | (refine wpList_load_row rfl 74 _ rfl w.heap.size rfl 74 pa (0,0) _ HX1.o Tryz.underlying74 rfl HPI.o ?_)
  | fail)
 refine HC.o.mono ?_
 rintro e w2 ⟨b,rfl,hbf,hb2⟩
 have HB2:Hid (Below w.heap.size w w2):=zh (HB1.o.trans (hb2.mono HB1.o.size))
 have HX2:Hid (Blk w2 w.heap.size 74 pa):=zh ((hb2.block _ HX1.o.lt).trans HX1.o)
 clear HC hb2 hw1 HX1
 cases b with
 | false=>
  have HC:=zh (awake41_any w2 (HLB.o w2 HB2.o))
  go_wp2_with fail
  refine HC.o.mono ?_
  rintro e w3 ⟨rfl,hb3⟩
  have HB3:Hid (Below w.heap.size w w3):=zh (HB2.o.trans (hb3.mono HB2.o.size))
  clear hb3 HC
  go_wp2_with fail
  go_ret
  exact⟨rfl,HB3.o⟩
 | true=>
 have HFO:=zh (hbf rfl)
 clear hbf
 have HC:=zh (sof_any x HSM.o w2)
 have HMC:Hid (∀(j:Nat) v,(smArr x)[j]? = some v→World.cell? w2 ⟨w.heap.size,1+j,none⟩=some v):=zh (by
  have h:=HX2.o
  rw[←HPA.o]at h
  exact fun j v hv=>play_sm h j v hv)
 obtain⟨sm,hsm⟩:∃sm,smArr x=sm:=⟨_,rfl⟩
 have HMI:Hid ((Tryz.prog.info? 72).map (·.size)=some sm.size):=zh (by rw[←hsm];exact sm_info)
 unfold smA at HC
 rw[hsm]at HC HMC
 clear hsm
 go_wp2_with (first
  | (refine wpList_load_at rfl 72 _ rfl w.heap.size 1 rfl sm HMC.o Tryz.underlying72 rfl HMI.o ?_)
  | fail)
 refine HC.o.mono ?_
 rintro e w3 ⟨s,rfl,hsl,hb3⟩
 have HB3:Hid (Below w.heap.size w w3):=zh (HB2.o.trans (hb3.mono HB2.o.size))
 have HX3:Hid (Blk w3 w.heap.size 74 pa):=zh ((hb3.block _ HX2.o.lt).trans HX2.o)
 have HSL:=zh hsl
 clear HC hb3 hsl HMC HX2
 go_upto_region 4 with (first
  | (refine Zad _ rfl 80 (.tmp 3) (.tmp 16) rfl 0 (sgArr s) rfl rfl (Blk.new _ _ _) (by show 0+22≤22;omega) Zb6 (by simp[sgArr,Value.oneCell']) ?_;intro w4 hb4 hk4 hs4)
  | fail)
 (try simp only[Exit.inBlock,Exit.then])
 simp only[sgArr,putA,List.setIfInBounds_toArray,List.set_cons_zero,List.set_cons_succ]at hb4
 have hx4:Blk w4 w3.heap.size 80 (sgArr s):=hb4
 have HB34:Hid (Below w3.heap.size w3 w4):=zh (((Below.refl _ _).alloc (zr _) _).trans (hk4.toBelow (fun i hi=>by rw[hi];exact zr _) (by simp)))
 obtain⟨sb,hsb⟩:∃sb,w3.heap.size=sb:=⟨_,rfl⟩
 rw[hsb]at hx4
 have HX4:Hid (Blk w4 w.heap.size 74 pa):=zh ((HB34.o.block _ HX3.o.lt).trans HX3.o)
 have HB4:Hid (Below w.heap.size w w4):=zh (HB3.o.trans (HB34.o.mono HB3.o.size))
 have HS4:Hid (Blk w4 sb 80 (sgArr s)):=zh hx4
 clear hb4 hk4 hs4 hx4 HB34 HX3
 try rw[hsb]
 clear hsb
 have HLB4:=HLB.o w4 HB4.o
 have HC:=zh (wof_any x.cfg w4 w4.heap.size A l n cp HFO.o.cfg HEV.o.1 (RowIn.more (HEV.o.2.below HB4.o) HB4.o.size) (zr _) (by have:=HFO.o.len;have:=HEV.o.1;omega) HFO.o.ok HLB4.g HLB4.k HLB4.t)
 have c0:w4.cell? ⟨sb,0,none⟩=some (.int .i64 x.cfg.half):=by have h:=HS4.o.cell 0;rw[←HSL.o.cfg];exact h
 have c1:w4.cell? ⟨sb,1,none⟩=some (.int .i64 x.cfg.width):=by have h:=HS4.o.cell 1;rw[←HSL.o.cfg];exact h
 have c2:w4.cell? ⟨sb,2,none⟩=some (.int .i64 x.cfg.gap):=by have h:=HS4.o.cell 2;rw[←HSL.o.cfg];exact h
 have c3:w4.cell? ⟨sb,3,none⟩=some (.int .i64 x.cfg.span):=by have h:=HS4.o.cell 3;rw[←HSL.o.cfg];exact h
 have c4:w4.cell? ⟨sb,4,none⟩=some (.int .i64 x.cfg.floor):=by have h:=HS4.o.cell 4;rw[←HSL.o.cfg];exact h
 have c5:w4.cell? ⟨sb,5,none⟩=some (.int .i64 x.cfg.crowd):=by have h:=HS4.o.cell 5;rw[←HSL.o.cfg];exact h
 have a0:w4.cell? ⟨w.heap.size,0,none⟩=some (.slice A n cp):=by have h:=HX4.o;rw[←HPA.o]at h;exact h.cell 0
 unfold cfgA at HC
 clear HLB4
 go_wp2_with fail
 refine HC.o.mono ?_
 rintro e w5 ⟨wb,base,E,rfl,han,hwa,_,hb5⟩
 obtain⟨ct,cr,hw5⟩:=hwa.read
 have HW5:=zh hw5
 have HB5:Hid (Below w.heap.size w w5):=zh (HB4.o.trans (hb5.mono HB4.o.size))
 have HX5:Hid (Blk w5 w.heap.size 74 pa):=zh ((hb5.block _ HX4.o.lt).trans HX4.o)
 have HS5:Hid (Blk w5 sb 80 (sgArr s)):=zh ((hb5.block _ HS4.o.lt).trans HS4.o)
 have HNE:Hid (WnE 200 E):=zh ⟨han.closed,fun e he=>HFO.o.ok e (han.sub he),by have:=han.few;have:=HFO.o.len;omega⟩
 have HANW:=zh han
 clear han hwa hb5 HC c0 c1 c2 c3 c4 c5 a0 hw5 HX4 HS4 HB4 HB3
 obtain⟨r,ra,hsy0,hr0⟩:=Ru.Zth (x.wh.toNat % 4)
 have HSY:=zh hsy0
 have HSG:Hid (SgOk s r):=zh (HSL.o.ok HFO.o.cfg hsy0)
 have HPC:Hid (∀W,Below w5.heap.size w5 W→World.cell? W ⟨w.heap.size,2+17,none⟩=some (.string p)∧World.cell? W ⟨w.heap.size,3+17,none⟩=some (.string i)∧World.cell? W ⟨w.heap.size,4+17,none⟩=some (.int .i64 now)):=zh (fun W hb=>by
  have h:Blk W w.heap.size 74 pa:=(hb.block _ HX5.o.lt).trans HX5.o
  rw[←HPA.o]at h
  exact⟨h.cell 19,h.cell 20,h.cell 21⟩)
 have HRUL:Hid (∀W,Below w5.heap.size w5 W→World.cell? W ⟨sb,19,none⟩=some (.string (Ru.ruleL (x.wh.toNat % 4)))):=zh (fun W hb=>by
  have h:Blk W sb 80 (sgArr s):=(hb.block _ HS5.o.lt).trans HS5.o
  rw[←HSL.o.rule]
  exact h.cell 19)
 clear hsy0
 have HOFY:Hid (toldB p i now=true→∀W,Below w5.heap.size w5 W→Calls Tryz.prog 41 #[.pointer (some ⟨wb,0,none⟩),sgA s,.string p,.string i,.int .i64 now] W (WhOf E x.cfg p i now r W)):=zh (fun ht W hb=>whof_yes (HW5.o.below hb) HNE.o HFO.o.cfg HFO.o.crowd s r HSG.o p i now ht (HLB.o W (HB5.o.trans (hb.mono HB5.o.size))))
 have HOFN:Hid (toldB p i now=false→∀W,Below w5.heap.size w5 W→Calls Tryz.prog 41 #[.pointer (some ⟨wb,0,none⟩),sgA s,.string p,.string i,.int .i64 now] W fun e w'=>e = .returned (.slice none 0 0)∧Below W.heap.size W w'):=zh (fun ht W hb=>whof_no W wb s r HSG.o p i now HFO.o.p HFO.o.i ht (HLB.o W (HB5.o.trans (hb.mono HB5.o.size))))
 have HCUN:Hid (toldB p i now=false→∀W A' n' c',Below w5.heap.size w5 W→Calls Tryz.prog 47 #[.pointer (some ⟨wb,0,none⟩),sgA s,.string p,.string i,.int .i64 now,.slice A' n' c'] W fun e w'=>e = .returned (.bool false)∧Below W.heap.size W w'):=zh (fun ht W A' n' c' hb=>cures_no W wb s r HSG.o p i now HFO.o.p HFO.o.i ht (HLB.o W (HB5.o.trans (hb.mono HB5.o.size))) A' n' c')
 have HCUY:Hid (toldB p i now=true→∀W (l:List (Nat×List Ev)) us A' n' c',Below w5.heap.size w5 W→l.length=n'→n'≤6→RowIn W W.heap.size 2 A' n' (us.flatMap chC)→ChsIn W us l→(∀e∈evsC l,EvOk e)→(∀x∈l,x.2.length≤12)→Calls Tryz.prog 47 #[.pointer (some ⟨wb,0,none⟩),sgA s,.string p,.string i,.int .i64 now,.slice A' n' c'] W fun e w'=>∃E3,AnewIs fmtB (E++evsC l) E3∧e = .returned (.bool (decide (whyW E3 p i now x.cfg.crowd x.cfg.span (some r)=0)))∧Below W.heap.size W w'):=zh (fun ht W l us A' n' c' hb h1 h2 h3 h4 h5 h6=>cures_yes (HW5.o.below hb) HNE.o HFO.o.cfg HFO.o.crowd s r HSG.o p i now ht (HLB.o W (HB5.o.trans (hb.mono HB5.o.size))) l us A' n' c' h1 h2 h3 h4 h5 h6)
 have HAW:Hid (∀W,Below w5.heap.size w5 W→Calls Tryz.prog 39 #[] W fun e w'=>e = .returned (.bool true)∧Below W.heap.size W w'):=zh (fun W hb=>awake41_any W (HLB.o W (HB5.o.trans (hb.mono HB5.o.size))))
 have HTD:=zh (HTO.o HFO.o.p HFO.o.i)
 obtain⟨sa,hsa⟩:∃sa,sgArr s=sa:=⟨_,rfl⟩
 have HSI:Hid ((Tryz.prog.info? 80).map (·.size)=some sa.size):=zh (by rw[←hsa];exact Zb6)
 unfold sgA at HOFY HOFN HCUN HCUY
 rw[hsa]at HS5 HOFY HOFN HCUN HCUY
 have HSB:Hid (∀W,Below w5.heap.size w5 W→Blk W sb 80 sa):=zh (fun W hb=>(hb.block _ HS5.o.lt).trans HS5.o)
 have HPB:Hid (∀W,Below w5.heap.size w5 W→Blk W w.heap.size 74 pa):=zh (fun W hb=>(hb.block _ HX5.o.lt).trans HX5.o)
 have HR0:Hid (Below w5.heap.size w5 w5):=zh (Below.refl _ _)
 clear hsa HTO HB2 HB1
 have hru:=HRUL.o w5 HR0.o
 obtain⟨rl,hrl⟩:∃rl,Ru.ruleL (x.wh.toNat % 4)=rl:=⟨_,rfl⟩
 have HRZ:Hid (rl.size≤1000):=zh (by rw[←hrl];exact Ru.Zl9 _)
 rw[hrl]at hru HSY
 have HC:=zh (Ru.parse_any rl w5 (by have:=HRZ.o;omega) (fun V hV=>by
  have k:=HLB.o V (HB5.o.trans (hV.mono HB5.o.size))
  exact⟨k.e,k.t⟩))
 clear hrl HRUL
 go_wp2_with fail
 refine HC.o.mono ?_
 rintro e w6 ⟨r',at_,v,hsy,rfl,hv,hb6⟩
 obtain rfl:r'=some r:=(hsy.det HSY.o).1
 obtain⟨qq,rfl,hq⟩:=Zn2 hv
 have HR6:Hid (RlIs w6 w5.heap.size (some r) qq):=zh ⟨by rw[Ne,hq];simp,hv,hsy.sz⟩
 have e0:errOf (some r)=0:=rfl
 rw[e0]
 have HB6:Hid (Below w5.heap.size w5 w6):=zh hb6
 have HC6:=zh (HTD.o w6)
 have HX6:=zh (HPB.o w6 HB6.o)
 clear hsy hv hb6 HC hru e0 hq
 obtain⟨tb,htb⟩:∃tb,toldB p i now=tb:=⟨_,rfl⟩
 rw[htb]at HC6 HTD HOFY HOFN HCUN HCUY
 have HTB:=zh htb
 clear htb
 go_wp2_with (first
  | (refine wpList_load_row rfl 74 _ rfl w.heap.size rfl 74 pa (0,0) _ HX6.o Tryz.underlying74 rfl HPI.o ?_)
  | fail)
 refine HC6.o.mono ?_
 rintro e w7 ⟨rfl,hb7⟩
 have HB7:Hid (Below w5.heap.size w5 w7):=zh (HB6.o.trans (hb7.mono HB6.o.size))
 have HR7:=zh (HR6.o.below hb7)
 obtain⟨a2,a3,a4⟩:=HPC.o w7 HB7.o
 have HS7:=zh (HSB.o w7 HB7.o)
 clear hb7 HC6 HR6 HX6
 cases tb with
 | false=>
  have HC:=zh (HCUN.o (by first|rfl|trivial) w7 none 0 0 HB7.o)
  go_wp2_with (first
   | (refine wpList_load_row rfl 80 _ rfl sb rfl 80 sa (0,0) _ HS7.o Tryz.underlying80 rfl HSI.o ?_)
   | fail)
  refine HC.o.mono ?_
  rintro e w8 ⟨rfl,hb8⟩
  have HB8:Hid (Below w5.heap.size w5 w8):=zh (HB7.o.trans (hb8.mono HB7.o.size))
  have HX8:=zh (HPB.o w8 HB8.o)
  have HC8:=zh (HTD.o w8)
  clear hb8 HC
  go_wp2_with (first
   | (refine wpList_load_row rfl 74 _ rfl w.heap.size rfl 74 pa (0,0) _ HX8.o Tryz.underlying74 rfl HPI.o ?_)
   | fail)
  refine HC8.o.mono ?_
  rintro e w9 ⟨rfl,hb9⟩
  have HB9:Hid (Below w5.heap.size w5 w9):=zh (HB8.o.trans (hb9.mono HB8.o.size))
  clear hb9 HC8
  have HC:=zh (HAW.o w9 HB9.o)
  go_wp2_with fail
  refine HC.o.mono ?_
  rintro e wz ⟨rfl,hbz⟩
  have HBZ:Hid (Below w.heap.size w wz):=zh (HB5.o.trans ((HB9.o.trans (hbz.mono HB9.o.size)).mono HB5.o.size))
  clear hbz HC
  go_wp2_with fail
  go_ret
  exact⟨rfl,HBZ.o⟩
 | true=>
  obtain⟨hp,hi,hn1,hn2⟩:=Zek HTB.o
  have HSZ:Hid (p.size≤24∧i.size≤24):=zh ⟨Zay hp,Zay hi⟩
  have HC:=zh (of_any w7 wb ct cr x.cfg E p i now qq (okP (some r)) (HW5.o.below HB7.o) (HR7.o.asks (HLB.o w7 (HB5.o.trans (HB7.o.mono HB5.o.size))).g) HNE.o.ok (by have:=HNE.o.few;omega) (by have:=HSZ.o;omega) (by have:=HSZ.o;omega) HNOW.o (Zs3 HNE.o.ok (by have:=HSZ.o;omega)))
  have HC:Hid (Calls Tryz.prog 20 #[.pointer (some ⟨wb,0,none⟩),.string p,.string i,.int .i64 now,.pointer qq] w7 fun e w'=>e = .returned (.int .i64 (whyW E p i now x.cfg.crowd x.cfg.span (some r):Nat))∧Below w7.heap.size w7 w'):=HC
  obtain⟨y,hy⟩:∃y,whyW E p i now x.cfg.crowd x.cfg.span (some r)=y:=⟨_,rfl⟩
  rw[hy]at HC
  have HY:=zh hy
  clear hy hp hi hn1 hn2
  go_wp2_with fail
  refine HC.o.mono ?_
  rintro e w8 ⟨rfl,hb8⟩
  have HB8:Hid (Below w5.heap.size w5 w8):=zh (HB7.o.trans (hb8.mono HB7.o.size))
  have HS8:=zh (HSB.o w8 HB8.o)
  obtain⟨a2,a3,a4⟩:=HPC.o w8 HB8.o
  have HC8:=zh (HCUY.o (by first|rfl|trivial) w8 [] [] none 0 0 HB8.o rfl (by omega) (RowIn.nil _ _ _ _) ⟨rfl,fun k u x h=>by simp at h⟩ (fun e he=>by simp[evsC]at he) (fun x hx=>by cases hx))
  clear hb8 HC HS7
  by_cases h0:y=0
  ·have d0:((y:Int) == 0)=true:=by rw[beq_iff_eq];omega
   have HH:=zh h0
   clear h0
   go_wp2_with (first
    | (refine wpList_load_row rfl 80 _ rfl sb rfl 80 sa (0,0) _ HS8.o Tryz.underlying80 rfl HSI.o ?_)
    | fail)
   refine HC8.o.mono ?_
   rintro e w9 ⟨E3,han3,he,hb9⟩
   obtain rfl:E3=E:=Zod HNE.o.closed (by rw[show evsC []=([]:List Ev) from rfl,List.append_nil]at han3;exact han3)
   obtain rfl:e = .returned (.bool true):=he.trans (congrArg (fun b=>Ending.returned (.bool b)) (by rw[HY.o];exact decide_eq_true HH.o))
   have HB9:Hid (Below w5.heap.size w5 w9):=zh (HB8.o.trans (hb9.mono HB8.o.size))
   have HX9:=zh (HPB.o w9 HB9.o)
   have HC9:=zh (HTD.o w9)
   clear hb9 HC8 he han3 d0
   go_wp2_with (first
    | (refine wpList_load_row rfl 74 _ rfl w.heap.size rfl 74 pa (0,0) _ HX9.o Tryz.underlying74 rfl HPI.o ?_)
    | fail)
   refine HC9.o.mono ?_
   rintro e w10 ⟨rfl,hb10⟩
   have HB10:Hid (Below w5.heap.size w5 w10):=zh (HB9.o.trans (hb10.mono HB9.o.size))
   have HS10:=zh (HSB.o w10 HB10.o)
   obtain⟨a2,a3,a4⟩:=HPC.o w10 HB10.o
   have HC:=zh (HOFY.o (by first|rfl|trivial) w10 HB10.o)
   clear hb10 HC9 HX9
   go_wp2_with (first
    | (refine Zel (by rfl) 80 _ rfl sb rfl 80 sa (0,0) _ HS10.o Tryz.underlying80 rfl HSI.o ?_)
    | fail)
   refine HC.o.mono ?_
   rintro e w11 ⟨lc,E2,A2,c2,us,rfl,hch,_,_,_,hb11⟩
   have HB11:Hid (Below w5.heap.size w5 w11):=zh (HB10.o.trans (hb11.mono HB10.o.size))
   have hl:=chain_nil hch
   rw[HY.o]at hl
   obtain rfl:=hl.2 HH.o
   clear hl hch hb11 HC
   have HC:=zh (HAW.o w11 HB11.o)
   go_wp2_with fail
   refine HC.o.mono ?_
   rintro e wz ⟨rfl,hbz⟩
   have HBZ:Hid (Below w.heap.size w wz):=zh (HB5.o.trans ((HB11.o.trans (hbz.mono HB11.o.size)).mono HB5.o.size))
   clear hbz HC
   go_wp2_with fail
   go_ret
   exact⟨rfl,HBZ.o⟩
  ·have d0:((y:Int) == 0)=false:=by rw[beq_eq_false_iff_ne];omega
   have HH:=zh h0
   clear h0
   go_wp2_with (first
    | (refine wpList_load_row rfl 80 _ rfl sb rfl 80 sa (0,0) _ HS8.o Tryz.underlying80 rfl HSI.o ?_)
    | fail)
   refine HC8.o.mono ?_
   rintro e w9 ⟨E3,han3,he,hb9⟩
   obtain rfl:E3=E:=Zod HNE.o.closed (by rw[show evsC []=([]:List Ev) from rfl,List.append_nil]at han3;exact han3)
   obtain rfl:e = .returned (.bool false):=he.trans (congrArg (fun b=>Ending.returned (.bool b)) (by rw[HY.o];exact decide_eq_false HH.o))
   have HB9:Hid (Below w5.heap.size w5 w9):=zh (HB8.o.trans (hb9.mono HB8.o.size))
   have HX9:=zh (HPB.o w9 HB9.o)
   have HC9:=zh (HTD.o w9)
   clear hb9 HC8 he han3 d0
   go_wp2_with (first
    | (refine wpList_load_row rfl 74 _ rfl w.heap.size rfl 74 pa (0,0) _ HX9.o Tryz.underlying74 rfl HPI.o ?_)
    | fail)
   refine HC9.o.mono ?_
   rintro e w10 ⟨rfl,hb10⟩
   have HB10:Hid (Below w5.heap.size w5 w10):=zh (HB9.o.trans (hb10.mono HB9.o.size))
   have HS10:=zh (HSB.o w10 HB10.o)
   obtain⟨a2,a3,a4⟩:=HPC.o w10 HB10.o
   have HC:=zh (HOFY.o (by first|rfl|trivial) w10 HB10.o)
   clear hb10 HC9 HX9
   go_wp2_with (first
    | (refine Zel (by rfl) 80 _ rfl sb rfl 80 sa (0,0) _ HS10.o Tryz.underlying80 rfl HSI.o ?_)
    | fail)
   refine HC.o.mono ?_
   rintro e w11 ⟨lc,E2,A2,c2,us,rfl,hch,_,_,_,hb11⟩
   have HB11:Hid (Below w5.heap.size w5 w11):=zh (HB10.o.trans (hb11.mono HB10.o.size))
   have hl:=chain_nil hch
   rw[HY.o]at hl
   have d1:((lc.length:Int) == 0)=false:=by
    rw[beq_eq_false_iff_ne]
    exact fun e=>HH.o (hl.1 (List.length_eq_zero_iff.1 (by omega)))
   clear hl hch hb11 HC
   have HC:=zh (HAW.o w11 HB11.o)
   go_wp2_with fail
   refine HC.o.mono ?_
   rintro e wz ⟨rfl,hbz⟩
   have HBZ:Hid (Below w.heap.size w wz):=zh (HB5.o.trans ((HB11.o.trans (hbz.mono HB11.o.size)).mono HB5.o.size))
   clear hbz HC
   go_wp2_with fail
   go_ret
   exact⟨rfl,HBZ.o⟩
end Go.Proofs.YthdmpcnnbminlaaGreatDoor
