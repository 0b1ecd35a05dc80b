/- WhynotSpoilt: the walk. -/
import Derived.Test.YthdmpcnnbminlaaGreatDoorVnN
import Derived.Test.YthdmpcnnbminlaaGreatDoorBv
namespace Go.Proofs.YthdmpcnnbminlaaGreatDoor
open Go.Shelf Go.RowKit Go.Maps
open Ru (Fz fzA fzX Nd holdsR RuleV ruleT Says errOf ErrAt TabAt)
set_option linter.unusedVariables false
theorem chain_len {fm:Ev→ByteArray} {p i:ByteArray} {now crowd span:Int} {r:Option (Option Nd)} {es E':List Ev} {l:List (Nat×List Ev)} (hcr:crowd≤12) (h:ChainP fm p i now crowd span r es l E'):∀x∈l,x.2.length≤12:=by
 induction h with
 | stop h=>intro x hx;cases hx
 | none h h0 hc=>intro x hx;rw[List.mem_singleton.1 hx];simp
 | @more es cs E E' l y h h0 hc hne hE ht ih=>
  intro x hx
  rcases List.mem_cons.1 hx with rfl|hx
  ·subst hc
   exact Zhg hcr
  ·exact ih x hx
def allN (l:List (Nat×List Ev)):Bool:=l.all fun x=>!x.2.isEmpty
theorem allN_take {l:List (Nat×List Ev)} {k:Nat} {x:Nat×List Ev} (h:l[k]? = some x):allN (l.take (k+1))=(allN (l.take k) && !x.2.isEmpty):=by
 rw[Zbd h]
 unfold allN
 rw[List.all_append]
 simp
theorem chain_all {p i:ByteArray} {now crowd span:Int} {r:Option (Option Nd)} {y0:Nat} {es E':List Ev} {l:List (Nat×List Ev)} (h:ChainOk p i now crowd span r y0 es l E'):decide (whyW E' p i now crowd span r=0)=allN l:=by
 by_cases ha:∀x∈l,x.2≠[]
 ·rw[decide_eq_true (h.last ha)]
  symm
  unfold allN
  rw[List.all_eq_true]
  intro x hx
  have:=ha x hx
  cases hx2:x.2 with
  | nil=>exact absurd hx2 this
  | cons a b=>rfl
 ·have hh:∃x,x∈l∧x.2 = []:=Classical.byContradiction (fun hn=>ha (fun x hx e=>hn ⟨x,hx,e⟩))
  obtain⟨x,hx,hx2⟩:=hh
  obtain⟨k,hk⟩:=List.mem_iff_getElem?.1 hx
  rw[decide_eq_false (h.none k x hk hx2).2]
  symm
  unfold allN
  rw[List.all_eq_false]
  exact⟨x,hx,by rw[hx2];simp⟩
theorem WhOf.parts {E:List Ev} {c:Cfg} {p i:ByteArray} {now:Int} {r:Option Nd} {l:List (Nat×List Ev)} {E2:List Ev} (hch:ChainP fmtB p i now c.crowd c.span (some r) E l E2) (hE:WnE 200 E) (hcr:c.crowd≤12) (ht:toldB p i now=true):ChainOk p i now c.crowd c.span (some r) 0 E l E2:=by
 obtain⟨hp,hi,hn1,hn2⟩:=Zek ht
 exact Zqz hp hi ⟨hn1,hn2⟩ hcr hch 0 (by omega) (by omega) ⟨hE.closed,hE.ok,by have:=hE.few;omega⟩
theorem evsC_ok {p i:ByteArray} {now crowd span:Int} {r:Option (Option Nd)} {y0:Nat} {es E':List Ev} {l:List (Nat×List Ev)} (h:ChainOk p i now crowd span r y0 es l E'):∀e∈evsC l,EvOk e:=by
 intro e he
 unfold evsC at he
 obtain⟨x,hx,he⟩:=List.mem_flatMap.1 he
 exact (h.evs x hx e he).1
section
variable {P : Program} {ops : Array Oper} {Q : Exit → Act → World → Prop} {S : World → Prop}
theorem plan_load_row {o:Oper} {l:List (Oper×Bool)} {a:Act} {w:World} (hw:Region.wanted o (yielded ops a.tmps)=true) (ty:TypeId) (x:Operand) (ho:o.op = .load ty x)
  (g:Nat) (hx:a.eval x = .pointer (some ⟨g,0,none⟩)) (t:TypeId) (cs:Array Value) {d:TypeDesc} (hg:∀W,S W→Blk W g t cs)
  (hu:P.underlying ty=some d) (hd:(match d with | .struct _ | .array _ _=>true|_=>false)=true) (hi:(P.info? ty).map (·.size)=some cs.size)
  (h:wpPlan P ops Q S l (a.put o.dst (.agg cs)) w):wpPlan P ops Q S ((o,false)::l) a w:=by
 refine Zaf (.agg cs) hw (fun W hW=>?_) h
 unfold execOp
 simp only[ho,hx,Instr.loadAt,Instr.sureAddr,Sem.run_bind,Sem.run_pure,Result.andThen_ok,run_loadVar_row W g t ty cs (0,0) d (hg W hW) hu hd hi]
end
theorem ChsIn.tail {w:World} {us:List (Nat×Value)} {l:List (Nat×List Ev)} (h:ChsIn w us l):ChsIn w (us.drop 1) (l.drop 1):=by
 refine⟨by rw[List.length_drop,List.length_drop,h.1],fun k u x h1 h2=>?_⟩
 rw[List.getElem?_drop]at h1 h2
 exact h.2 _ u x h1 h2
theorem flat_drop1 (us:List (Nat×Value)):(us.flatMap chC).drop (1*2)=(us.drop 1).flatMap chC:=by
 cases us with
 | nil=>rfl
 | cons u us=>rfl
set_option maxHeartbeats 8000000 in
set_option maxRecDepth 100000 in
theorem whynotSpoilt_walk (A:Option Addr) (n cp:Nat) (l:List Ev) (x:Sm) (p i:ByteArray) (now:Int) (w:World) (h:PlayIn w A n cp l x p i now):Calls Tryz.prog 13 #[plA A n cp x p i now] w (TrueR w):=by
 obtain⟨⟨hn,hev,hbig,hnil,hbd⟩,hlib,hsm,hpz,hiz,hnow⟩:=h
 obtain⟨w1,hw1⟩:∃w1,w.alloc (.cells (plArr A n cp x p i now) 74)=w1:=⟨_,rfl⟩
 have HX1:Hid (Blk w1 w.heap.size 74 (plArr A n cp x p i now)):=zh (by rw[←hw1];exact Blk.new _ _ _)
 have HB1:Hid (Below w.heap.size w w1):=zh (by rw[←hw1];exact (Below.refl _ _).alloc (zr _) _)
 have HLB:Hid (∀W,Below w.heap.size w W→Lb2 W):=zh (fun W hb=>hlib.keep hb)
 have HC:=zh (few41_any A n cp l x p i now w1 ⟨hn,RowIn.more (hev.below HB1.o) HB1.o.size,hbig,hnil,hbd⟩ (by unfold maxLen;omega) (by unfold maxLen;omega))
 have HEV:=zh (And.intro hn hev)
 have HSM:=zh hsm
 have HNOW:=zh hnow
 have HTO:Hid (p.size≤60→i.size≤60→∀W,Calls Tryz.prog 42 #[plA A n cp x p i now] W fun e w'=>e = .returned (.bool (toldB p i now))∧Below W.heap.size W w'):=zh (fun h1 h2 W=>told41_any A n cp x p i now W h1 h2)
 obtain⟨pa,hpa⟩:∃pa,plArr A n cp x p i now=pa:=⟨_,rfl⟩
 have HPA:=zh hpa
 unfold plA at HC HTO ⊢
 rw[hpa]at hw1 HX1 HC HTO ⊢
 have HPI:Hid ((Tryz.prog.info? 74).map (·.size)=some pa.size):=zh (by rw[←hpa];exact play_info)
 clear hn hev hbig hnil hbd hlib hsm hpz hiz hnow hpa
 go_enter Tryz.func13,Tryz.ntmps13
 go_wp2_with (first
  | (refine wpList_load_row rfl 74 _ rfl w.heap.size rfl 74 pa (0,0) _ HX1.o Tryz.underlying74 rfl HPI.o ?_)
  | fail)
 refine HC.o.mono ?_
 rintro e w2 ⟨b,rfl,hbf,hb2⟩
 have HB2:Hid (Below w.heap.size w w2):=zh (HB1.o.trans (hb2.mono HB1.o.size))
 have HX2:Hid (Blk w2 w.heap.size 74 pa):=zh ((hb2.block _ HX1.o.lt).trans HX1.o)
 clear HC hb2 hw1 HX1
 cases b with
 | false=>
  have HC:=zh (awake41_any w2 (HLB.o w2 HB2.o))
  go_wp2_with fail
  refine HC.o.mono ?_
  rintro e w3 ⟨rfl,hb3⟩
  have HB3:Hid (Below w.heap.size w w3):=zh (HB2.o.trans (hb3.mono HB2.o.size))
  clear hb3 HC
  go_wp2_with fail
  go_ret
  exact⟨rfl,HB3.o⟩
 | true=>
 have HFO:=zh (hbf rfl)
 clear hbf
 have hx2:Blk w2 w.heap.size 74 (plArr A n cp x p i now):=by rw[HPA.o];exact HX2.o
 have f18:w2.frozen? ⟨w.heap.size,18,none⟩=false:=hx2.frozen 18
 have c18:w2.cell? ⟨w.heap.size,18,none⟩=some (.int .u8 x.wh):=hx2.cell 18
 obtain⟨ws,hws⟩:∃W,w2.setCell ⟨w.heap.size,18,none⟩ (.int .u8 0)=W:=⟨_,rfl⟩
 have hxs:Blk ws w.heap.size 74 (plArr A n cp { x with wh:=0 } p i now):=by
  rw[←hws]
  have h:=hx2.set_ 18 (.int .u8 0)
  exact h
 have HBs:Hid (Below w.heap.size w ws):=zh (by rw[←hws];exact HB2.o.setCell (p:=⟨w.heap.size,18,none⟩) (zr _) _)
 have HFs:Hid (FewOk l { x with wh:=0 } p i):=zh ⟨HFO.o.cfg,HFO.o.crowd,HFO.o.len,HFO.o.ok,HFO.o.p,HFO.o.i⟩
 have HSs:Hid (SmIn { x with wh:=0 }):=zh ⟨HSM.o.sz,HSM.o.ev,HSM.o.lm,HSM.o.sl,HSM.o.mq,⟨Int.le_refl 0,by show (0:Int)≤255;decide⟩⟩
 clear HPA HX2 HB2 HFO HSM HPI hx2 HTO
 go_upto_region 4 with fail
 try rw[hws]
 clear hws f18 c18
 obtain⟨x,hx⟩:∃z,z=({ x with wh:=0 }:Sm):=⟨_,rfl⟩
 rw[←hx]at hxs HFs HSs
 have HWH:Hid (x.wh=0):=zh (by rw[hx])
 clear hx
 obtain⟨pa,hpa⟩:∃z,plArr A n cp x p i now=z:=⟨_,rfl⟩
 have HPA:=zh hpa
 have HPI:Hid ((Tryz.prog.info? 74).map (·.size)=some pa.size):=zh (by rw[←hpa];exact play_info)
 rw[hpa]at hxs
 obtain⟨w2,rfl⟩:∃W,W=ws:=⟨_,rfl⟩
 have HX2:=zh hxs
 have HB2:=HBs
 have HFO:=HFs
 have HSM:=HSs
 have HTO:Hid (p.size≤60→i.size≤60→True):=zh (fun _ _=>trivial)
 clear HBs HFs HSs hxs hpa
 have HC:=zh (sof_any x HSM.o w2)
 have HMC:Hid (∀(j:Nat) v,(smArr x)[j]? = some v→World.cell? w2 ⟨w.heap.size,1+j,none⟩=some v):=zh (by
  have h:=HX2.o
  rw[←HPA.o]at h
  exact fun j v hv=>play_sm h j v hv)
 obtain⟨sm,hsm⟩:∃sm,smArr x=sm:=⟨_,rfl⟩
 have HMI:Hid ((Tryz.prog.info? 72).map (·.size)=some sm.size):=zh (by rw[←hsm];exact sm_info)
 unfold smA at HC
 rw[hsm]at HC HMC
 clear hsm
 go_wp2_with (first
  | (refine wpList_load_at rfl 72 _ rfl w.heap.size 1 rfl sm HMC.o Tryz.underlying72 rfl HMI.o ?_)
  | fail)
 refine HC.o.mono ?_
 rintro e w3 ⟨s,rfl,hsl,hb3⟩
 have HB3:Hid (Below w.heap.size w w3):=zh (HB2.o.trans (hb3.mono HB2.o.size))
 have HX3:Hid (Blk w3 w.heap.size 74 pa):=zh ((hb3.block _ HX2.o.lt).trans HX2.o)
 have HSL:=zh hsl
 clear HC hb3 hsl HMC HX2
 go_upto_region 5 with (first
  | (refine Zad _ rfl 80 (.tmp 3) (.tmp 15) rfl 0 (sgArr s) rfl rfl (Blk.new _ _ _) (by show 0+22≤22;omega) Zb6 (by simp[sgArr,Value.oneCell']) ?_;intro w4 hb4 hk4 hs4)
  | fail)
 (try simp only[Exit.inBlock,Exit.then])
 simp only[sgArr,putA,List.setIfInBounds_toArray,List.set_cons_zero,List.set_cons_succ]at hb4
 have hx4:Blk w4 w3.heap.size 80 (sgArr s):=hb4
 have HB34:Hid (Below w3.heap.size w3 w4):=zh (((Below.refl _ _).alloc (zr _) _).trans (hk4.toBelow (fun i hi=>by rw[hi];exact zr _) (by simp)))
 obtain⟨sb,hsb⟩:∃sb,w3.heap.size=sb:=⟨_,rfl⟩
 rw[hsb]at hx4
 have HX4:Hid (Blk w4 w.heap.size 74 pa):=zh ((HB34.o.block _ HX3.o.lt).trans HX3.o)
 have HB4:Hid (Below w.heap.size w w4):=zh (HB3.o.trans (HB34.o.mono HB3.o.size))
 have HS4:Hid (Blk w4 sb 80 (sgArr s)):=zh hx4
 clear hb4 hk4 hs4 hx4 HB34 HX3
 try rw[hsb]
 clear hsb
 have HLB4:=HLB.o w4 HB4.o
 have HC:=zh (wof_any x.cfg w4 w4.heap.size A l n cp HFO.o.cfg HEV.o.1 (RowIn.more (HEV.o.2.below HB4.o) HB4.o.size) (zr _) (by have:=HFO.o.len;have:=HEV.o.1;omega) HFO.o.ok HLB4.g HLB4.k HLB4.t)
 have c0:w4.cell? ⟨sb,0,none⟩=some (.int .i64 x.cfg.half):=by have h:=HS4.o.cell 0;rw[←HSL.o.cfg];exact h
 have c1:w4.cell? ⟨sb,1,none⟩=some (.int .i64 x.cfg.width):=by have h:=HS4.o.cell 1;rw[←HSL.o.cfg];exact h
 have c2:w4.cell? ⟨sb,2,none⟩=some (.int .i64 x.cfg.gap):=by have h:=HS4.o.cell 2;rw[←HSL.o.cfg];exact h
 have c3:w4.cell? ⟨sb,3,none⟩=some (.int .i64 x.cfg.span):=by have h:=HS4.o.cell 3;rw[←HSL.o.cfg];exact h
 have c4:w4.cell? ⟨sb,4,none⟩=some (.int .i64 x.cfg.floor):=by have h:=HS4.o.cell 4;rw[←HSL.o.cfg];exact h
 have c5:w4.cell? ⟨sb,5,none⟩=some (.int .i64 x.cfg.crowd):=by have h:=HS4.o.cell 5;rw[←HSL.o.cfg];exact h
 have a0:w4.cell? ⟨w.heap.size,0,none⟩=some (.slice A n cp):=by have h:=HX4.o;rw[←HPA.o]at h;exact h.cell 0
 unfold cfgA at HC
 clear HLB4
 go_wp2_with fail
 refine HC.o.mono ?_
 rintro e w5 ⟨wb,base,E,rfl,han,hwa,_,hb5⟩
 obtain⟨ct,cr,hw5⟩:=hwa.read
 have HW5:=zh hw5
 have HB5:Hid (Below w.heap.size w w5):=zh (HB4.o.trans (hb5.mono HB4.o.size))
 have HX5:Hid (Blk w5 w.heap.size 74 pa):=zh ((hb5.block _ HX4.o.lt).trans HX4.o)
 have HS5:Hid (Blk w5 sb 80 (sgArr s)):=zh ((hb5.block _ HS4.o.lt).trans HS4.o)
 have HNE:Hid (WnE 200 E):=zh ⟨han.closed,fun e he=>HFO.o.ok e (han.sub he),by have:=han.few;have:=HFO.o.len;omega⟩
 have HANW:=zh han
 clear han hwa hb5 HC c0 c1 c2 c3 c4 c5 a0 hw5 HX4 HS4 HB4 HB3
 obtain⟨r,ra,hsy0,hr0⟩:=Ru.Zth (x.wh.toNat % 4)
 have HSY:=zh hsy0
 have HSG:Hid (SgOk s r):=zh (HSL.o.ok HFO.o.cfg hsy0)
 have HPC:Hid (∀W,Below w5.heap.size w5 W→World.cell? W ⟨w.heap.size,2+17,none⟩=some (.string p)∧World.cell? W ⟨w.heap.size,3+17,none⟩=some (.string i)∧World.cell? W ⟨w.heap.size,4+17,none⟩=some (.int .i64 now)):=zh (fun W hb=>by
  have h:Blk W w.heap.size 74 pa:=(hb.block _ HX5.o.lt).trans HX5.o
  rw[←HPA.o]at h
  exact⟨h.cell 19,h.cell 20,h.cell 21⟩)
 have HRUL:Hid (∀W,Below w5.heap.size w5 W→World.cell? W ⟨sb,19,none⟩=some (.string (Ru.ruleL (x.wh.toNat % 4)))):=zh (fun W hb=>by
  have h:Blk W sb 80 (sgArr s):=(hb.block _ HS5.o.lt).trans HS5.o
  rw[←HSL.o.rule]
  exact h.cell 19)
 clear hsy0
 have HOFY:Hid (toldB p i now=true→∀W,Below w5.heap.size w5 W→Calls Tryz.prog 41 #[.pointer (some ⟨wb,0,none⟩),sgA s,.string p,.string i,.int .i64 now] W (WhOf E x.cfg p i now r W)):=zh (fun ht W hb=>whof_yes (HW5.o.below hb) HNE.o HFO.o.cfg HFO.o.crowd s r HSG.o p i now ht (HLB.o W (HB5.o.trans (hb.mono HB5.o.size))))
 have HOFN:Hid (toldB p i now=false→∀W,Below w5.heap.size w5 W→Calls Tryz.prog 41 #[.pointer (some ⟨wb,0,none⟩),sgA s,.string p,.string i,.int .i64 now] W fun e w'=>e = .returned (.slice none 0 0)∧Below W.heap.size W w'):=zh (fun ht W hb=>whof_no W wb s r HSG.o p i now HFO.o.p HFO.o.i ht (HLB.o W (HB5.o.trans (hb.mono HB5.o.size))))
 have HCUN:Hid (toldB p i now=false→∀W A' n' c',Below w5.heap.size w5 W→Calls Tryz.prog 47 #[.pointer (some ⟨wb,0,none⟩),sgA s,.string p,.string i,.int .i64 now,.slice A' n' c'] W fun e w'=>e = .returned (.bool false)∧Below W.heap.size W w'):=zh (fun ht W A' n' c' hb=>cures_no W wb s r HSG.o p i now HFO.o.p HFO.o.i ht (HLB.o W (HB5.o.trans (hb.mono HB5.o.size))) A' n' c')
 have HCUY:Hid (toldB p i now=true→∀W (l:List (Nat×List Ev)) us A' n' c',Below w5.heap.size w5 W→l.length=n'→n'≤6→RowIn W W.heap.size 2 A' n' (us.flatMap chC)→ChsIn W us l→(∀e∈evsC l,EvOk e)→(∀x∈l,x.2.length≤12)→Calls Tryz.prog 47 #[.pointer (some ⟨wb,0,none⟩),sgA s,.string p,.string i,.int .i64 now,.slice A' n' c'] W fun e w'=>∃E3,AnewIs fmtB (E++evsC l) E3∧e = .returned (.bool (decide (whyW E3 p i now x.cfg.crowd x.cfg.span (some r)=0)))∧Below W.heap.size W w'):=zh (fun ht W l us A' n' c' hb h1 h2 h3 h4 h5 h6=>cures_yes (HW5.o.below hb) HNE.o HFO.o.cfg HFO.o.crowd s r HSG.o p i now ht (HLB.o W (HB5.o.trans (hb.mono HB5.o.size))) l us A' n' c' h1 h2 h3 h4 h5 h6)
 have HAW:Hid (∀W,Below w5.heap.size w5 W→Calls Tryz.prog 39 #[] W fun e w'=>e = .returned (.bool true)∧Below W.heap.size W w'):=zh (fun W hb=>awake41_any W (HLB.o W (HB5.o.trans (hb.mono HB5.o.size))))
 obtain⟨sa,hsa⟩:∃sa,sgArr s=sa:=⟨_,rfl⟩
 have HSI:Hid ((Tryz.prog.info? 80).map (·.size)=some sa.size):=zh (by rw[←hsa];exact Zb6)
 unfold sgA at HOFY HOFN HCUN HCUY
 rw[hsa]at HS5 HOFY HOFN HCUN HCUY
 have HSB:Hid (∀W,Below w5.heap.size w5 W→Blk W sb 80 sa):=zh (fun W hb=>(hb.block _ HS5.o.lt).trans HS5.o)
 have HPB:Hid (∀W,Below w5.heap.size w5 W→Blk W w.heap.size 74 pa):=zh (fun W hb=>(hb.block _ HX5.o.lt).trans HX5.o)
 have HR0:Hid (Below w5.heap.size w5 w5):=zh (Below.refl _ _)
 clear hsa HTO HB2 HB1
 obtain⟨tb,htb⟩:∃tb,toldB p i now=tb:=⟨_,rfl⟩
 rw[htb]at HOFY HOFN HCUN HCUY
 have HTB:=zh htb
 have HRN:Hid (r=none):=zh (hr0 (by rw[HWH.o];rfl))
 clear htb HRUL hr0
 have HS5b:=zh (HSB.o w5 HR0.o)
 obtain⟨a2,a3,a4⟩:=HPC.o w5 HR0.o
 cases tb with
 | false=>
  have HC:=zh (HOFN.o (by first|rfl|trivial) w5 HR0.o)
  go_wp2_with (first
   | (refine wpList_load_row rfl 80 _ rfl sb rfl 80 sa (0,0) _ HS5b.o Tryz.underlying80 rfl HSI.o ?_)
   | fail)
  refine HC.o.mono ?_
  rintro e w6 ⟨rfl,hb6⟩
  have HB6:Hid (Below w5.heap.size w5 w6):=zh hb6
  clear hb6 HC
  have HC:=zh (HAW.o w6 HB6.o)
  go_wp2_with fail
  refine HC.o.mono ?_
  rintro e wz ⟨rfl,hbz⟩
  have HBZ:Hid (Below w.heap.size w wz):=zh (HB5.o.trans ((HB6.o.trans (hbz.mono HB6.o.size)).mono HB5.o.size))
  clear hbz HC
  go_wp2_with fail
  go_ret
  exact⟨rfl,HBZ.o⟩
 | true=>
  have HC:=zh (HOFY.o (by first|rfl|trivial) w5 HR0.o)
  go_wp2_with (first
   | (refine wpList_load_row rfl 80 _ rfl sb rfl 80 sa (0,0) _ HS5b.o Tryz.underlying80 rfl HSI.o ?_)
   | fail)
  refine HC.o.mono ?_
  rintro e w6 ⟨lc,E2,A2,c2,us,rfl,hch,hrow,hins,hnil,hb6⟩
  have HCK:=zh (WhOf.parts hch HNE.o HFO.o.crowd HTB.o)
  have HCL:=zh (chain_len HFO.o.crowd hch)
  have HCH:=zh hch
  have HB6:Hid (Below w5.heap.size w5 w6):=zh hb6
  obtain⟨m,hm⟩:∃m,lc.length=m:=⟨_,rfl⟩
  have HM:Hid (lc.length=m∧m≤6):=zh ⟨hm,by have:=HCK.o.few;omega⟩
  have hcap:m≤c2:=by rw[←hm];exact hnil.2
  rw[hm]at hrow ⊢
  have HROW:=zh (And.intro hrow hins)
  have HS6:=zh (HSB.o w6 HB6.o)
  obtain⟨a2,a3,a4⟩:=HPC.o w6 HB6.o
  have HC6:=zh (HCUY.o (by first|rfl|trivial) w6 lc us A2 m c2 HB6.o HM.o.1 HM.o.2 HROW.o.1 HROW.o.2 (evsC_ok HCK.o) HCL.o)
  clear hb6 HC hch hrow hins hnil hm
  by_cases h0:m=0
  ·have d0:((m:Int) == 0)=true:=by rw[beq_iff_eq];omega
   clear h0
   have HC:=zh (HAW.o w6 HB6.o)
   go_wp2_with fail
   refine HC.o.mono ?_
   rintro e wz ⟨rfl,hbz⟩
   have HBZ:Hid (Below w.heap.size w wz):=zh (HB5.o.trans ((HB6.o.trans (hbz.mono HB6.o.size)).mono HB5.o.size))
   clear hbz HC
   go_wp2_with fail
   go_ret
   exact⟨rfl,HBZ.o⟩
  ·have d0:((m:Int) == 0)=false:=by rw[beq_eq_false_iff_ne];omega
   have HM0:Hid (1≤m):=zh (by omega)
   clear h0
   go_wp2_with (first
    | (refine Zel (by rfl) 80 _ rfl sb rfl 80 sa (0,0) _ HS6.o Tryz.underlying80 rfl HSI.o ?_)
    | fail)
   refine HC6.o.mono ?_
   rintro e w7 ⟨E3,han3,he,hb7⟩
   obtain rfl:E3=E2:=HCK.o.all HNE.o.closed han3
   have HB7:Hid (Below w5.heap.size w5 w7):=zh (HB6.o.trans (hb7.mono HB6.o.size))
   have HROW7:Hid (RowIn w7 w6.heap.size 2 A2 m (us.flatMap chC)∧ChsIn w7 us lc):=zh ⟨HROW.o.1.below hb7,HROW.o.2.below hb7⟩
   have HZ67:Hid (w6.heap.size≤w7.heap.size):=zh hb7.size
   obtain⟨al,hal⟩:∃al,allN lc=al:=⟨_,rfl⟩
   have HAL:=zh hal
   obtain rfl:e = .returned (.bool al):=he.trans (congrArg (fun b=>Ending.returned (.bool b)) (by rw[chain_all HCK.o,HAL.o]))
   clear hb7 HC6 he han3 hal d0
   cases al with
   | false=>
    have HC:=zh (HAW.o w7 HB7.o)
    go_wp2_with fail
    refine HC.o.mono ?_
    rintro e wz ⟨rfl,hbz⟩
    have HBZ:Hid (Below w.heap.size w wz):=zh (HB5.o.trans ((HB7.o.trans (hbz.mono HB7.o.size)).mono HB5.o.size))
    clear hbz HC
    go_wp2_with fail
    go_ret
    exact⟨rfl,HBZ.o⟩
   | true=>
    obtain⟨ab,ao,rfl,_,_⟩:=HROW.o.1.at (by have:=HM0.o;omega)
    have hm1:(1:Int)≤(m:Int):=by have:=HM0.o;omega
    have hm2:(m:Int)≤(c2:Int):=by omega
    go_upto_region 11 with fail
    refine Zar (fun W=>Below w5.heap.size w5 W) [(1,false),(0,false),(2,false),(3,false),(4,false),(5,false),(6,false),(7,false),(8,false),(9,false),(10,true),(11,false),(12,false),(13,true),(14,false),(15,false)] (by kernel_rfl) (by kernel_rfl) (below_drew HB7.o) ?_
    simp only[planL,List.getElem?_cons_zero,List.getElem?_cons_succ]
    obtain⟨wd,hwd⟩:∃z,w7.drew=z:=⟨_,rfl⟩
    have HBD:Hid (Below w5.heap.size w5 wd):=zh (by rw[←hwd];exact below_drew HB7.o)
    have HB7d:Hid (Below w7.heap.size w7 wd):=zh (by rw[←hwd];exact below_drew (Below.refl _ _))
    rw[hwd]
    clear hwd
    refine plan_load_row (by rfl) 80 _ rfl sb rfl 80 sa HSB.o Tryz.underlying80 rfl HSI.o ?_
    simp only[Act.put,xq1,xq2,xq3]
    repeat (first|(refine Zaf _ (by rfl) (fun W hW=>by (obtain⟨a2,a3,a4⟩:=HPC.o W hW;go_simp;try with_reducible rfl)) ?_;simp only[Act.put,xq1,xq2,xq3])|(refine Zac (by rfl) ?_;simp only[Act.put,xq1,xq2,xq3]))
    refine Zae ?_
    have HPR:Hid (allN lc=true):=HAL
    obtain⟨z0,lc',rfl⟩:∃z l',lc=z::l':=by
     cases lc with
     | nil=>exact absurd HM.o.1 (by have:=HM0.o;simp;omega)
     | cons z l'=>exact⟨z,l',rfl⟩
    obtain⟨y0,cs0⟩:=z0
    have HROWd:Hid (RowIn wd wd.heap.size 2 (some ⟨ab,ao,none⟩) m (us.flatMap chC)∧ChsIn wd us ((y0,cs0)::lc')):=zh ⟨RowIn.more ((HROW7.o.1.more HZ67.o).below HB7d.o) HB7d.o.size,HROW7.o.2.below HB7d.o⟩
    have hcut:=HROWd.o.1.cut (k:=1) (cap:=c2) (by have:=HM0.o;omega) hcap
    rw[flat_drop1,show Option.map (fun z:Addr=>z.add (1*2)) (some (⟨ab,ao,none⟩:Addr))=some ⟨ab,ao+2,none⟩ by simp[at_add]]at hcut
    generalize hA9:(if c2=1 then (some (⟨ab,ao,none⟩:Addr)) else some ⟨ab,ao+2,none⟩)=A9 at hcut ⊢
    clear hA9
    have HC:=zh (HCUY.o (by first|rfl|trivial) wd lc' (us.drop 1) _ (m - 1) (c2 - 1) HBD.o (by have:=HM.o.1;simp at this;omega) (by have:=HM.o.2;omega) hcut (by have h:=HROWd.o.2.tail;simpa using h) (fun e he=>evsC_ok HCK.o e (by rw[Zij];exact List.mem_append_right _ he)) (fun x hx=>HCL.o x (List.mem_cons_of_mem _ hx)))
    clear hcut hm1 hm2 hcap
    go_wp2_with fail
    refine HC.o.mono ?_
    rintro e w8 ⟨E4,han4,he,hb8⟩
    obtain⟨hp,hi,hn1,hn2⟩:=Zek HTB.o
    have hsp:=spoilt hp hi ⟨hn1,hn2⟩ HFO.o.crowd (okP_true (Or.inr (by rw[HRN.o]))) HCH.o (fun z hz=>by
     have h:=HPR.o
     unfold allN at h
     rw[List.all_eq_true]at h
     intro e
     have:=h z hz
     rw[e]at this
     cases this) HNE.o han4
    obtain rfl:e = .returned (.bool false):=he.trans (congrArg (fun b=>Ending.returned (.bool b)) (decide_eq_false hsp))
    have HB8:Hid (Below w5.heap.size w5 w8):=zh (HBD.o.trans (hb8.mono HBD.o.size))
    clear hb8 HC he han4 hsp hp hi hn1 hn2
    go_wp2_with fail
    refine⟨HB8.o,?_⟩
    repeat (first|(refine Zaf _ (by rfl) (fun W hW=>by (obtain⟨a2,a3,a4⟩:=HPC.o W hW;go_simp;try with_reducible rfl)) ?_;simp only[Act.put,xq1,xq2,xq3])|(refine Zac (by rfl) ?_;simp only[Act.put,xq1,xq2,xq3]))
    refine Zae ?_
    have HC:=zh (HAW.o w8 HB8.o)
    go_wp2_with fail
    refine HC.o.mono ?_
    rintro e w9 ⟨rfl,hb9⟩
    have HB9:Hid (Below w5.heap.size w5 w9):=zh (HB8.o.trans (hb9.mono HB8.o.size))
    clear hb9 HC
    go_wp2_with fail
    refine⟨HB9.o,?_⟩
    repeat (first|(refine Zaf _ (by rfl) (fun W hW=>by (obtain⟨a2,a3,a4⟩:=HPC.o W hW;go_simp;try with_reducible rfl)) ?_;simp only[Act.put,xq1,xq2,xq3])|(refine Zac (by rfl) ?_;simp only[Act.put,xq1,xq2,xq3]))
    refine Zah ?_
    go_wp2_with fail
    go_ret
    exact⟨rfl,HB5.o.trans (HB9.o.mono HB5.o.size)⟩
end Go.Proofs.YthdmpcnnbminlaaGreatDoor
