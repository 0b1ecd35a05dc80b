/- WhynotCures: the walk. -/
import Derived.Test.YthdmpcnnbminlaaGreatDoorVnN
namespace Go.Proofs.YthdmpcnnbminlaaGreatDoor
open Go.Shelf Go.RowKit Go.Maps
open Ru (Fz fzA fzX Nd holdsR RuleV ruleT Says errOf ErrAt TabAt)
set_option linter.unusedVariables false
theorem chain_len {fm:Ev→ByteArray} {p i:ByteArray} {now crowd span:Int} {r:Option (Option Nd)} {es E':List Ev} {l:List (Nat×List Ev)} (hcr:crowd≤12) (h:ChainP fm p i now crowd span r es l E'):∀x∈l,x.2.length≤12:=by
 induction h with
 | stop h=>intro x hx;cases hx
 | none h h0 hc=>intro x hx;rw[List.mem_singleton.1 hx];simp
 | @more es cs E E' l y h h0 hc hne hE ht ih=>
  intro x hx
  rcases List.mem_cons.1 hx with rfl|hx
  ·subst hc
   exact Zhg hcr
  ·exact ih x hx
def allN (l:List (Nat×List Ev)):Bool:=l.all fun x=>!x.2.isEmpty
theorem allN_take {l:List (Nat×List Ev)} {k:Nat} {x:Nat×List Ev} (h:l[k]? = some x):allN (l.take (k+1))=(allN (l.take k) && !x.2.isEmpty):=by
 rw[Zbd h]
 unfold allN
 rw[List.all_append]
 simp
theorem chain_all {p i:ByteArray} {now crowd span:Int} {r:Option (Option Nd)} {y0:Nat} {es E':List Ev} {l:List (Nat×List Ev)} (h:ChainOk p i now crowd span r y0 es l E'):decide (whyW E' p i now crowd span r=0)=allN l:=by
 by_cases ha:∀x∈l,x.2≠[]
 ·rw[decide_eq_true (h.last ha)]
  symm
  unfold allN
  rw[List.all_eq_true]
  intro x hx
  have:=ha x hx
  cases hx2:x.2 with
  | nil=>exact absurd hx2 this
  | cons a b=>rfl
 ·have hh:∃x,x∈l∧x.2 = []:=Classical.byContradiction (fun hn=>ha (fun x hx e=>hn ⟨x,hx,e⟩))
  obtain⟨x,hx,hx2⟩:=hh
  obtain⟨k,hk⟩:=List.mem_iff_getElem?.1 hx
  rw[decide_eq_false (h.none k x hk hx2).2]
  symm
  unfold allN
  rw[List.all_eq_false]
  exact⟨x,hx,by rw[hx2];simp⟩
theorem WhOf.parts {E:List Ev} {c:Cfg} {p i:ByteArray} {now:Int} {r:Option Nd} {l:List (Nat×List Ev)} {E2:List Ev} (hch:ChainP fmtB p i now c.crowd c.span (some r) E l E2) (hE:WnE 200 E) (hcr:c.crowd≤12) (ht:toldB p i now=true):ChainOk p i now c.crowd c.span (some r) 0 E l E2:=by
 obtain⟨hp,hi,hn1,hn2⟩:=Zek ht
 exact Zqz hp hi ⟨hn1,hn2⟩ hcr hch 0 (by omega) (by omega) ⟨hE.closed,hE.ok,by have:=hE.few;omega⟩
theorem evsC_ok {p i:ByteArray} {now crowd span:Int} {r:Option (Option Nd)} {y0:Nat} {es E':List Ev} {l:List (Nat×List Ev)} (h:ChainOk p i now crowd span r y0 es l E'):∀e∈evsC l,EvOk e:=by
 intro e he
 unfold evsC at he
 obtain⟨x,hx,he⟩:=List.mem_flatMap.1 he
 exact (h.evs x hx e he).1
set_option maxHeartbeats 8000000 in
set_option maxRecDepth 100000 in
theorem whynotCures_walk (A:Option Addr) (n cp:Nat) (l:List Ev) (x:Sm) (p i:ByteArray) (now:Int) (w:World) (h:PlayIn w A n cp l x p i now):Calls Tryz.prog 10 #[plA A n cp x p i now] w (TrueR w):=by
 obtain⟨⟨hn,hev,hbig,hnil,hbd⟩,hlib,hsm,hpz,hiz,hnow⟩:=h
 obtain⟨w1,hw1⟩:∃w1,w.alloc (.cells (plArr A n cp x p i now) 74)=w1:=⟨_,rfl⟩
 have HX1:Hid (Blk w1 w.heap.size 74 (plArr A n cp x p i now)):=zh (by rw[←hw1];exact Blk.new _ _ _)
 have HB1:Hid (Below w.heap.size w w1):=zh (by rw[←hw1];exact (Below.refl _ _).alloc (zr _) _)
 have HLB:Hid (∀W,Below w.heap.size w W→Lb2 W):=zh (fun W hb=>hlib.keep hb)
 have HC:=zh (few41_any A n cp l x p i now w1 ⟨hn,RowIn.more (hev.below HB1.o) HB1.o.size,hbig,hnil,hbd⟩ (by unfold maxLen;omega) (by unfold maxLen;omega))
 have HEV:=zh (And.intro hn hev)
 have HSM:=zh hsm
 have HNOW:=zh hnow
 have HTO:Hid (p.size≤60→i.size≤60→∀W,Calls Tryz.prog 42 #[plA A n cp x p i now] W fun e w'=>e = .returned (.bool (toldB p i now))∧Below W.heap.size W w'):=zh (fun h1 h2 W=>told41_any A n cp x p i now W h1 h2)
 obtain⟨pa,hpa⟩:∃pa,plArr A n cp x p i now=pa:=⟨_,rfl⟩
 have HPA:=zh hpa
 unfold plA at HC HTO ⊢
 rw[hpa]at hw1 HX1 HC HTO ⊢
 have HPI:Hid ((Tryz.prog.info? 74).map (·.size)=some pa.size):=zh (by rw[←hpa];exact play_info)
 clear hn hev hbig hnil hbd hlib hsm hpz hiz hnow hpa
 go_enter Tryz.func10,Tryz.ntmps10
 go_wp2_with (first
  | (refine wpList_load_row rfl 74 _ rfl w.heap.size rfl 74 pa (0,0) _ HX1.o Tryz.underlying74 rfl HPI.o ?_)
  | fail)
 refine HC.o.mono ?_
 rintro e w2 ⟨b,rfl,hbf,hb2⟩
 have HB2:Hid (Below w.heap.size w w2):=zh (HB1.o.trans (hb2.mono HB1.o.size))
 have HX2:Hid (Blk w2 w.heap.size 74 pa):=zh ((hb2.block _ HX1.o.lt).trans HX1.o)
 clear HC hb2 hw1 HX1
 cases b with
 | false=>
  have HC:=zh (awake41_any w2 (HLB.o w2 HB2.o))
  go_wp2_with fail
  refine HC.o.mono ?_
  rintro e w3 ⟨rfl,hb3⟩
  have HB3:Hid (Below w.heap.size w w3):=zh (HB2.o.trans (hb3.mono HB2.o.size))
  clear hb3 HC
  go_wp2_with fail
  go_ret
  exact⟨rfl,HB3.o⟩
 | true=>
 have HFO:=zh (hbf rfl)
 clear hbf
 have HC:=zh (sof_any x HSM.o w2)
 have HMC:Hid (∀(j:Nat) v,(smArr x)[j]? = some v→World.cell? w2 ⟨w.heap.size,1+j,none⟩=some v):=zh (by
  have h:=HX2.o
  rw[←HPA.o]at h
  exact fun j v hv=>play_sm h j v hv)
 obtain⟨sm,hsm⟩:∃sm,smArr x=sm:=⟨_,rfl⟩
 have HMI:Hid ((Tryz.prog.info? 72).map (·.size)=some sm.size):=zh (by rw[←hsm];exact sm_info)
 unfold smA at HC
 rw[hsm]at HC HMC
 clear hsm
 go_wp2_with (first
  | (refine wpList_load_at rfl 72 _ rfl w.heap.size 1 rfl sm HMC.o Tryz.underlying72 rfl HMI.o ?_)
  | fail)
 refine HC.o.mono ?_
 rintro e w3 ⟨s,rfl,hsl,hb3⟩
 have HB3:Hid (Below w.heap.size w w3):=zh (HB2.o.trans (hb3.mono HB2.o.size))
 have HX3:Hid (Blk w3 w.heap.size 74 pa):=zh ((hb3.block _ HX2.o.lt).trans HX2.o)
 have HSL:=zh hsl
 clear HC hb3 hsl HMC HX2
 go_upto_region 4 with (first
  | (refine Zad _ rfl 80 (.tmp 3) (.tmp 16) rfl 0 (sgArr s) rfl rfl (Blk.new _ _ _) (by show 0+22≤22;omega) Zb6 (by simp[sgArr,Value.oneCell']) ?_;intro w4 hb4 hk4 hs4)
  | fail)
 (try simp only[Exit.inBlock,Exit.then])
 simp only[sgArr,putA,List.setIfInBounds_toArray,List.set_cons_zero,List.set_cons_succ]at hb4
 have hx4:Blk w4 w3.heap.size 80 (sgArr s):=hb4
 have HB34:Hid (Below w3.heap.size w3 w4):=zh (((Below.refl _ _).alloc (zr _) _).trans (hk4.toBelow (fun i hi=>by rw[hi];exact zr _) (by simp)))
 obtain⟨sb,hsb⟩:∃sb,w3.heap.size=sb:=⟨_,rfl⟩
 rw[hsb]at hx4
 have HX4:Hid (Blk w4 w.heap.size 74 pa):=zh ((HB34.o.block _ HX3.o.lt).trans HX3.o)
 have HB4:Hid (Below w.heap.size w w4):=zh (HB3.o.trans (HB34.o.mono HB3.o.size))
 have HS4:Hid (Blk w4 sb 80 (sgArr s)):=zh hx4
 clear hb4 hk4 hs4 hx4 HB34 HX3
 try rw[hsb]
 clear hsb
 have HLB4:=HLB.o w4 HB4.o
 have HC:=zh (wof_any x.cfg w4 w4.heap.size A l n cp HFO.o.cfg HEV.o.1 (RowIn.more (HEV.o.2.below HB4.o) HB4.o.size) (zr _) (by have:=HFO.o.len;have:=HEV.o.1;omega) HFO.o.ok HLB4.g HLB4.k HLB4.t)
 have c0:w4.cell? ⟨sb,0,none⟩=some (.int .i64 x.cfg.half):=by have h:=HS4.o.cell 0;rw[←HSL.o.cfg];exact h
 have c1:w4.cell? ⟨sb,1,none⟩=some (.int .i64 x.cfg.width):=by have h:=HS4.o.cell 1;rw[←HSL.o.cfg];exact h
 have c2:w4.cell? ⟨sb,2,none⟩=some (.int .i64 x.cfg.gap):=by have h:=HS4.o.cell 2;rw[←HSL.o.cfg];exact h
 have c3:w4.cell? ⟨sb,3,none⟩=some (.int .i64 x.cfg.span):=by have h:=HS4.o.cell 3;rw[←HSL.o.cfg];exact h
 have c4:w4.cell? ⟨sb,4,none⟩=some (.int .i64 x.cfg.floor):=by have h:=HS4.o.cell 4;rw[←HSL.o.cfg];exact h
 have c5:w4.cell? ⟨sb,5,none⟩=some (.int .i64 x.cfg.crowd):=by have h:=HS4.o.cell 5;rw[←HSL.o.cfg];exact h
 have a0:w4.cell? ⟨w.heap.size,0,none⟩=some (.slice A n cp):=by have h:=HX4.o;rw[←HPA.o]at h;exact h.cell 0
 unfold cfgA at HC
 clear HLB4
 go_wp2_with fail
 refine HC.o.mono ?_
 rintro e w5 ⟨wb,base,E,rfl,han,hwa,_,hb5⟩
 obtain⟨ct,cr,hw5⟩:=hwa.read
 have HW5:=zh hw5
 have HB5:Hid (Below w.heap.size w w5):=zh (HB4.o.trans (hb5.mono HB4.o.size))
 have HX5:Hid (Blk w5 w.heap.size 74 pa):=zh ((hb5.block _ HX4.o.lt).trans HX4.o)
 have HS5:Hid (Blk w5 sb 80 (sgArr s)):=zh ((hb5.block _ HS4.o.lt).trans HS4.o)
 have HNE:Hid (WnE 200 E):=zh ⟨han.closed,fun e he=>HFO.o.ok e (han.sub he),by have:=han.few;have:=HFO.o.len;omega⟩
 have HANW:=zh han
 clear han hwa hb5 HC c0 c1 c2 c3 c4 c5 a0 hw5 HX4 HS4 HB4 HB3
 obtain⟨r,ra,hsy0,hr0⟩:=Ru.Zth (x.wh.toNat % 4)
 have HSY:=zh hsy0
 have HSG:Hid (SgOk s r):=zh (HSL.o.ok HFO.o.cfg hsy0)
 have HPC:Hid (∀W,Below w5.heap.size w5 W→World.cell? W ⟨w.heap.size,2+17,none⟩=some (.string p)∧World.cell? W ⟨w.heap.size,3+17,none⟩=some (.string i)∧World.cell? W ⟨w.heap.size,4+17,none⟩=some (.int .i64 now)):=zh (fun W hb=>by
  have h:Blk W w.heap.size 74 pa:=(hb.block _ HX5.o.lt).trans HX5.o
  rw[←HPA.o]at h
  exact⟨h.cell 19,h.cell 20,h.cell 21⟩)
 have HRUL:Hid (∀W,Below w5.heap.size w5 W→World.cell? W ⟨sb,19,none⟩=some (.string (Ru.ruleL (x.wh.toNat % 4)))):=zh (fun W hb=>by
  have h:Blk W sb 80 (sgArr s):=(hb.block _ HS5.o.lt).trans HS5.o
  rw[←HSL.o.rule]
  exact h.cell 19)
 clear hsy0
 have HOFY:Hid (toldB p i now=true→∀W,Below w5.heap.size w5 W→Calls Tryz.prog 41 #[.pointer (some ⟨wb,0,none⟩),sgA s,.string p,.string i,.int .i64 now] W (WhOf E x.cfg p i now r W)):=zh (fun ht W hb=>whof_yes (HW5.o.below hb) HNE.o HFO.o.cfg HFO.o.crowd s r HSG.o p i now ht (HLB.o W (HB5.o.trans (hb.mono HB5.o.size))))
 have HOFN:Hid (toldB p i now=false→∀W,Below w5.heap.size w5 W→Calls Tryz.prog 41 #[.pointer (some ⟨wb,0,none⟩),sgA s,.string p,.string i,.int .i64 now] W fun e w'=>e = .returned (.slice none 0 0)∧Below W.heap.size W w'):=zh (fun ht W hb=>whof_no W wb s r HSG.o p i now HFO.o.p HFO.o.i ht (HLB.o W (HB5.o.trans (hb.mono HB5.o.size))))
 have HCUN:Hid (toldB p i now=false→∀W A' n' c',Below w5.heap.size w5 W→Calls Tryz.prog 47 #[.pointer (some ⟨wb,0,none⟩),sgA s,.string p,.string i,.int .i64 now,.slice A' n' c'] W fun e w'=>e = .returned (.bool false)∧Below W.heap.size W w'):=zh (fun ht W A' n' c' hb=>cures_no W wb s r HSG.o p i now HFO.o.p HFO.o.i ht (HLB.o W (HB5.o.trans (hb.mono HB5.o.size))) A' n' c')
 have HCUY:Hid (toldB p i now=true→∀W (l:List (Nat×List Ev)) us A' n' c',Below w5.heap.size w5 W→l.length=n'→n'≤6→RowIn W W.heap.size 2 A' n' (us.flatMap chC)→ChsIn W us l→(∀e∈evsC l,EvOk e)→(∀x∈l,x.2.length≤12)→Calls Tryz.prog 47 #[.pointer (some ⟨wb,0,none⟩),sgA s,.string p,.string i,.int .i64 now,.slice A' n' c'] W fun e w'=>∃E3,AnewIs fmtB (E++evsC l) E3∧e = .returned (.bool (decide (whyW E3 p i now x.cfg.crowd x.cfg.span (some r)=0)))∧Below W.heap.size W w'):=zh (fun ht W l us A' n' c' hb h1 h2 h3 h4 h5 h6=>cures_yes (HW5.o.below hb) HNE.o HFO.o.cfg HFO.o.crowd s r HSG.o p i now ht (HLB.o W (HB5.o.trans (hb.mono HB5.o.size))) l us A' n' c' h1 h2 h3 h4 h5 h6)
 have HAW:Hid (∀W,Below w5.heap.size w5 W→Calls Tryz.prog 39 #[] W fun e w'=>e = .returned (.bool true)∧Below W.heap.size W w'):=zh (fun W hb=>awake41_any W (HLB.o W (HB5.o.trans (hb.mono HB5.o.size))))
 have HTD:=zh (HTO.o HFO.o.p HFO.o.i)
 obtain⟨sa,hsa⟩:∃sa,sgArr s=sa:=⟨_,rfl⟩
 have HSI:Hid ((Tryz.prog.info? 80).map (·.size)=some sa.size):=zh (by rw[←hsa];exact Zb6)
 unfold sgA at HOFY HOFN HCUN HCUY
 rw[hsa]at HS5 HOFY HOFN HCUN HCUY
 have HSB:Hid (∀W,Below w5.heap.size w5 W→Blk W sb 80 sa):=zh (fun W hb=>(hb.block _ HS5.o.lt).trans HS5.o)
 have HPB:Hid (∀W,Below w5.heap.size w5 W→Blk W w.heap.size 74 pa):=zh (fun W hb=>(hb.block _ HX5.o.lt).trans HX5.o)
 have HR0:Hid (Below w5.heap.size w5 w5):=zh (Below.refl _ _)
 clear hsa HTO HB2 HB1
 obtain⟨tb,htb⟩:∃tb,toldB p i now=tb:=⟨_,rfl⟩
 rw[htb]at HTD HOFY HOFN HCUN HCUY
 have HTB:=zh htb
 clear htb HRUL
 have HS5b:=zh (HSB.o w5 HR0.o)
 obtain⟨a2,a3,a4⟩:=HPC.o w5 HR0.o
 cases tb with
 | false=>
  have HC:=zh (HOFN.o (by first|rfl|trivial) w5 HR0.o)
  go_wp2_with (first
   | (refine wpList_load_row rfl 80 _ rfl sb rfl 80 sa (0,0) _ HS5b.o Tryz.underlying80 rfl HSI.o ?_)
   | fail)
  refine HC.o.mono ?_
  rintro e w6 ⟨rfl,hb6⟩
  have HB6:Hid (Below w5.heap.size w5 w6):=zh hb6
  have HX6:=zh (HPB.o w6 HB6.o)
  have HC6:=zh (HTD.o w6)
  clear hb6 HC
  go_wp2_with (first
   | (refine wpList_load_row rfl 74 _ rfl w.heap.size rfl 74 pa (0,0) _ HX6.o Tryz.underlying74 rfl HPI.o ?_)
   | fail)
  refine HC6.o.mono ?_
  rintro e w7 ⟨rfl,hb7⟩
  have HB7:Hid (Below w5.heap.size w5 w7):=zh (HB6.o.trans (hb7.mono HB6.o.size))
  clear hb7 HC6
  go_wp2_with fail
  go_loopw [7,44] (fun av iv wr=>av = .bool false∧iv = .int .i64 0∧Hid (Below w5.heap.size w5 wr)) (fun _ _ _=>0)
  case atStart=>exact⟨rfl,rfl,HB7⟩
  case round=>
   obtain⟨rfl,rfl,HBR⟩:=hrel
   obtain⟨a2,a3,a4⟩:=HPC.o wr HBR.o
   have HSR:=zh (HSB.o wr HBR.o)
   have HC:=zh (HCUN.o (by first|rfl|trivial) wr none 0 0 HBR.o)
   go_wp2_with (first
    | (refine wpList_load_row rfl 80 _ rfl sb rfl 80 sa (0,0) _ HSR.o Tryz.underlying80 rfl HSI.o ?_)
    | fail)
   refine HC.o.mono ?_
   rintro e w8 ⟨rfl,hb8⟩
   have HB8:Hid (Below w5.heap.size w5 w8):=zh (HBR.o.trans (hb8.mono HBR.o.size))
   clear hb8 HC
   have HC:=zh (HAW.o w8 HB8.o)
   go_wp2_with fail
   refine HC.o.mono ?_
   rintro e wz ⟨rfl,hbz⟩
   have HBZ:Hid (Below w.heap.size w wz):=zh (HB5.o.trans ((HB8.o.trans (hbz.mono HB8.o.size)).mono HB5.o.size))
   clear hbz HC
   go_wp2_with fail
   go_ret
   exact⟨rfl,HBZ.o⟩
 | true=>
  have HC:=zh (HOFY.o (by first|rfl|trivial) w5 HR0.o)
  go_wp2_with (first
   | (refine wpList_load_row rfl 80 _ rfl sb rfl 80 sa (0,0) _ HS5b.o Tryz.underlying80 rfl HSI.o ?_)
   | fail)
  refine HC.o.mono ?_
  rintro e w6 ⟨lc,E2,A2,c2,us,rfl,hch,hrow,hins,hnil,hb6⟩
  have HCK:=zh (WhOf.parts hch HNE.o HFO.o.crowd HTB.o)
  have HCL:=zh (chain_len HFO.o.crowd hch)
  have HB6:Hid (Below w5.heap.size w5 w6):=zh hb6
  obtain⟨m,hm⟩:∃m,lc.length=m:=⟨_,rfl⟩
  have HM:Hid (lc.length=m∧m≤6):=zh ⟨hm,by have:=HCK.o.few;omega⟩
  rw[hm]at hrow ⊢
  have HROW:=zh (And.intro hrow hins)
  have HX6:=zh (HPB.o w6 HB6.o)
  have HC6:=zh (HTD.o w6)
  clear hb6 HC hch hrow hins hnil hm
  go_wp2_with (first
   | (refine wpList_load_row rfl 74 _ rfl w.heap.size rfl 74 pa (0,0) _ HX6.o Tryz.underlying74 rfl HPI.o ?_)
   | fail)
  refine HC6.o.mono ?_
  rintro e w7 ⟨rfl,hb7⟩
  have HB67:Hid (Below w6.heap.size w6 w7):=zh hb7
  clear hb7 HC6
  go_wp2_with fail
  go_loopw [7,44] (fun av iv wr=>∃k:Nat,av = .bool (allN (lc.take k))∧iv = .int .i64 k∧k≤m∧Hid (Below w6.heap.size w6 wr)) (fun _ iv _=>m - (intOf iv).toNat)
  case atStart=>exact⟨0,rfl,rfl,Nat.zero_le _,HB67⟩
  case round=>
   obtain⟨k,rfl,rfl,hk,HBR⟩:=hrel
   have HBR5:Hid (Below w5.heap.size w5 wr):=zh (HB6.o.trans (HBR.o.mono HB6.o.size))
   by_cases hlt:k<m
   ·obtain⟨z,hz⟩:∃z,lc[k]? = some z:=⟨lc[k]'(by rw[HM.o.1];exact hlt),List.getElem?_eq_getElem _⟩
    obtain⟨u,hu⟩:∃u,us[k]? = some u:=⟨us[k]'(by rw[HROW.o.2.1,HM.o.1];exact hlt),List.getElem?_eq_getElem _⟩
    obtain⟨b,off,rfl,hb,hcl⟩:=HROW.o.1.at (by omega)
    obtain⟨hu1,A5,c5,hu2,he5,hnil5⟩:=HROW.o.2.2 k u z hu hz
    obtain⟨u1,u2⟩:=u
    dsimp only at hu1 hu2
    subst hu2
    obtain⟨k5,hk5⟩:∃k5,z.2.length=k5:=⟨_,rfl⟩
    rw[hk5]at hu
    have c0:World.cell? wr ⟨b,off+k*2,none⟩=some (.int .i64 (u1:Int)):=(HBR.o.cell (p:=⟨b,off+k*2,none⟩) hb).trans (hcl (k*2) _ (Zbi chC 2 Zos us k 0 _ hu (by omega)))
    have c1:World.cell? wr ⟨b,off+k*2+1,none⟩=some (.slice A5 k5 c5):=(HBR.o.cell (p:=⟨b,off+k*2+1,none⟩) hb).trans (hcl (k*2+1) _ (Zbi chC 2 Zos us k 1 _ hu (by omega)))
    have HZK:=zh (And.intro hz hk5)
    have hk8:(k:Int)<(m:Int):=by omega
    have hk9:(0:Int)≤(k:Int):=by omega
    clear hcl hu he5 hnil5 hk5 hu1 hb
    go_upto_region 12 with (first
     | (refine Zad _ rfl 87 (.tmp 9) (.tmp 48) rfl 0 #[.int .i64 (u1:Int),.slice A5 k5 c5] rfl rfl (Blk.new _ _ _) (by show 0+2≤2;omega) Zjn (by simp[Value.oneCell']) ?_;intro w8 hb8 hk8 hs8)
     | fail)
    (try simp only[Exit.inBlock,Exit.then])
    simp only[putA,List.setIfInBounds_toArray,List.set_cons_zero,List.set_cons_succ]at hb8
    have HB8:Hid (Below w6.heap.size w6 w8):=zh (HBR.o.trans ((((Below.refl _ _).alloc (zr _) _).trans (hk8.toBelow (fun i hi=>by rw[hi];exact zr _) (by simp))).mono HBR.o.size))
    have HC8:Hid (Blk w8 wr.heap.size 87 #[.int .i64 (u1:Int),.slice A5 k5 c5]):=zh hb8
    obtain⟨cb,hcb⟩:∃cb,wr.heap.size=cb:=⟨_,rfl⟩
    rw[hcb]at HC8
    clear hb8 hk8 hs8 c0 c1
    try rw[hcb]
    clear hcb
    have x1:w8.cell? ⟨cb,1,none⟩=some (.slice A5 k5 c5):=HC8.o.cell 1
    have hn6:=HM.o.2
    by_cases h0:k5=0
    ·have d0:((k5:Int) == 0)=true:=by rw[beq_iff_eq];omega
     have hz2:z.2 = []:=List.length_eq_zero_iff.1 (by rw[HZK.o.2,h0])
     have hlast:=(HCK.o.none k z HZK.o.1 hz2).1
     have hkm:k+1=m:=by rw[←HM.o.1];exact hlast
     have hdl:decide ((k:Int)<(m:Int) - 1)=false:=decide_eq_false (by omega)
     have hnl:¬(k:Int)<(m:Int) - 1:=by omega
     have HA:Hid (allN (lc.take (k+1))=false):=zh (by rw[allN_take HZK.o.1,hz2];simp)
     clear hlast hz2 h0
     go_wp2_with fail
     go_roundw
     case rel=>exact⟨k+1,by rw[HA.o],by go_num,by omega,HB8⟩
     case measure=>simp[intOf];omega
    ·have d0:((k5:Int) == 0)=false:=by rw[beq_eq_false_iff_ne];omega
     have HA:Hid (allN (lc.take (k+1))=allN (lc.take k)):=zh (by
      rw[allN_take HZK.o.1]
      cases hz2:z.2 with
      | nil=>exact absurd (by rw[←HZK.o.2,hz2];rfl) h0
      | cons a b=>simp)
     clear h0
     go_wp2_with fail
     go_roundw
     case rel=>exact⟨k+1,by rw[HA.o],by go_num,by omega,HB8⟩
     case measure=>simp[intOf];omega
   ·obtain rfl:k=m:=by omega
    have HAL:Hid (allN (lc.take k)=allN lc):=zh (by rw[←HM.o.1,List.take_length])
    rw[HAL.o]
    obtain⟨al,hal⟩:∃al,allN lc=al:=⟨_,rfl⟩
    have HAN:=zh hal
    rw[hal]
    have hkk:¬(k:Int)<(k:Int):=by omega
    obtain⟨a2,a3,a4⟩:=HPC.o wr HBR5.o
    have HSR:=zh (HSB.o wr HBR5.o)
    have HC:=zh (HCUY.o (by first|rfl|trivial) wr lc us A2 k c2 HBR5.o HM.o.1 HM.o.2 (RowIn.more (HROW.o.1.below HBR.o) HBR.o.size) (HROW.o.2.below HBR.o) (evsC_ok HCK.o) HCL.o)
    clear hlt hal
    go_wp2_with (first
     | (refine wpList_load_row rfl 80 _ rfl sb rfl 80 sa (0,0) _ HSR.o Tryz.underlying80 rfl HSI.o ?_)
     | fail)
    refine HC.o.mono ?_
    rintro e w8 ⟨E3,han3,he,hb8⟩
    obtain rfl:E3=E2:=HCK.o.all HNE.o.closed han3
    obtain rfl:e = .returned (.bool al):=he.trans (congrArg (fun b=>Ending.returned (.bool b)) (by rw[chain_all HCK.o,HAN.o]))
    have HB8:Hid (Below w5.heap.size w5 w8):=zh (HBR5.o.trans (hb8.mono HBR5.o.size))
    have hself:(al == al)=true:=by cases al <;> rfl
    clear hb8 HC he han3
    have HC:=zh (HAW.o w8 HB8.o)
    go_wp2_with fail
    refine HC.o.mono ?_
    rintro e wz ⟨rfl,hbz⟩
    have HBZ:Hid (Below w.heap.size w wz):=zh (HB5.o.trans ((HB8.o.trans (hbz.mono HB8.o.size)).mono HB5.o.size))
    clear hbz HC
    go_wp2_with fail
    go_ret
    exact⟨rfl,HBZ.o⟩
end Go.Proofs.YthdmpcnnbminlaaGreatDoor
