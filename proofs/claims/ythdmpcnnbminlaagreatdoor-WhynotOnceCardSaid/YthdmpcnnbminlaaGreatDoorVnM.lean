/- WhynotOnce: the walk. -/
import Derived.Test.YthdmpcnnbminlaaGreatDoorVnN
namespace Go.Proofs.YthdmpcnnbminlaaGreatDoor
open Go.Shelf Go.RowKit Go.Maps
open Ru (Fz fzA fzX Nd holdsR RuleV ruleT Says errOf ErrAt TabAt)
set_option linter.unusedVariables false
theorem chain_len {fm:Ev→ByteArray} {p i:ByteArray} {now crowd span:Int} {r:Option (Option Nd)} {es E':List Ev} {l:List (Nat×List Ev)} (hcr:crowd≤12) (h:ChainP fm p i now crowd span r es l E'):∀x∈l,x.2.length≤12:=by
 induction h with
 | stop h=>intro x hx;cases hx
 | none h h0 hc=>intro x hx;rw[List.mem_singleton.1 hx];simp
 | @more es cs E E' l y h h0 hc hne hE ht ih=>
  intro x hx
  rcases List.mem_cons.1 hx with rfl|hx
  ·subst hc
   exact Zhg hcr
  ·exact ih x hx
theorem WhOf.parts {E:List Ev} {c:Cfg} {p i:ByteArray} {now:Int} {r:Option Nd} {l:List (Nat×List Ev)} {E2:List Ev} (hch:ChainP fmtB p i now c.crowd c.span (some r) E l E2) (hE:WnE 200 E) (hcr:c.crowd≤12) (ht:toldB p i now=true):ChainOk p i now c.crowd c.span (some r) 0 E l E2:=by
 obtain⟨hp,hi,hn1,hn2⟩:=Zek ht
 exact Zqz hp hi ⟨hn1,hn2⟩ hcr hch 0 (by omega) (by omega) ⟨hE.closed,hE.ok,by have:=hE.few;omega⟩
theorem chain_det {fm:Ev→ByteArray} {p i:ByteArray} {now crowd span:Int} {r:Option (Option Nd)} {es E':List Ev} {l:List (Nat×List Ev)} (h:ChainP fm p i now crowd span r es l E'):∀{l2:List (Nat×List Ev)} {E2:List Ev},ChainP fm p i now crowd span r es l2 E2→l2=l:=by
 induction h with
 | stop h=>
  intro l2 E2 h2
  cases h2 with
  | stop _=>rfl
  | none h' h0' _=>exact absurd (h'.symm.trans h) h0'
  | more h' h0' _ _ _ _=>exact absurd (h'.symm.trans h) h0'
 | none h h0 hc=>
  intro l2 E2 h2
  cases h2 with
  | stop h'=>exact absurd (h.symm.trans h') h0
  | none h' h0' _=>
   obtain rfl:=h.symm.trans h'
   rfl
  | more h' h0' hc' hne' _ _=>
   obtain rfl:=h.symm.trans h'
   exact absurd (hc'.symm.trans hc) hne'
 | more h h0 hc hne hE ht ih=>
  intro l2 E2 h2
  cases h2 with
  | stop h'=>exact absurd (h.symm.trans h') h0
  | none h' h0' hc'=>
   obtain rfl:=h.symm.trans h'
   exact absurd (hc.symm.trans hc') hne
  | more h' h0' hc' hne' hE' ht'=>
   obtain rfl:=h.symm.trans h'
   obtain rfl:=hc.symm.trans hc'
   obtain rfl:=Za3 hE.sorted hE'.sorted (fun e=>by rw[hE.mem,hE'.mem])
   rw[ih ht']
theorem ev_size8:(Tryz.prog.info? 31).map (·.size)=some 8:=by kernel_rfl
theorem source_any (w:World):Calls Tryz.prog 48 #[] w fun e w'=>e = .returned (.string zzS)∧w'=w:=by
 go_enter Tryz.func48,Tryz.ntmps48
 go_wp2_with fail
 go_ret
 exact⟨rfl,rfl⟩
set_option maxHeartbeats 8000000 in
set_option maxRecDepth 100000 in
theorem whynotOnce_walk (A:Option Addr) (n cp:Nat) (l:List Ev) (x:Sm) (p i:ByteArray) (now:Int) (w:World) (h:PlayIn w A n cp l x p i now):Calls Tryz.prog 11 #[plA A n cp x p i now] w (TrueR w):=by
 obtain⟨⟨hn,hev,hbig,hnil,hbd⟩,hlib,hsm,hpz,hiz,hnow⟩:=h
 obtain⟨w1,hw1⟩:∃w1,w.alloc (.cells (plArr A n cp x p i now) 74)=w1:=⟨_,rfl⟩
 have HX1:Hid (Blk w1 w.heap.size 74 (plArr A n cp x p i now)):=zh (by rw[←hw1];exact Blk.new _ _ _)
 have HB1:Hid (Below w.heap.size w w1):=zh (by rw[←hw1];exact (Below.refl _ _).alloc (zr _) _)
 have HLB:Hid (∀W,Below w.heap.size w W→Lb2 W):=zh (fun W hb=>hlib.keep hb)
 have HC:=zh (few41_any A n cp l x p i now w1 ⟨hn,RowIn.more (hev.below HB1.o) HB1.o.size,hbig,hnil,hbd⟩ (by unfold maxLen;omega) (by unfold maxLen;omega))
 have HEV:=zh (And.intro hn hev)
 have HSM:=zh hsm
 have HNOW:=zh hnow
 obtain⟨pa,hpa⟩:∃pa,plArr A n cp x p i now=pa:=⟨_,rfl⟩
 have HPA:=zh hpa
 unfold plA at HC ⊢
 rw[hpa]at hw1 HX1 HC ⊢
 have HPI:Hid ((Tryz.prog.info? 74).map (·.size)=some pa.size):=zh (by rw[←hpa];exact play_info)
 clear hn hev hbig hnil hbd hlib hsm hpz hiz hnow hpa
 go_enter Tryz.func11,Tryz.ntmps11
 go_wp2_with (first
  | (refine wpList_load_row rfl 74 _ rfl w.heap.size rfl 74 pa (0,0) _ HX1.o Tryz.underlying74 rfl HPI.o ?_)
  | fail)
 refine HC.o.mono ?_
 rintro e w2 ⟨b,rfl,hbf,hb2⟩
 have HB2:Hid (Below w.heap.size w w2):=zh (HB1.o.trans (hb2.mono HB1.o.size))
 have HX2:Hid (Blk w2 w.heap.size 74 pa):=zh ((hb2.block _ HX1.o.lt).trans HX1.o)
 clear HC hb2 hw1 HX1
 cases b with
 | false=>
  have HC:=zh (awake41_any w2 (HLB.o w2 HB2.o))
  go_wp2_with fail
  refine HC.o.mono ?_
  rintro e w3 ⟨rfl,hb3⟩
  have HB3:Hid (Below w.heap.size w w3):=zh (HB2.o.trans (hb3.mono HB2.o.size))
  clear hb3 HC
  go_wp2_with fail
  go_ret
  exact⟨rfl,HB3.o⟩
 | true=>
 have HFO:=zh (hbf rfl)
 clear hbf
 have HSRC:Hid (∀W,Calls Tryz.prog 48 #[] W fun e w'=>e = .returned (.string zzS)∧w'=W):=zh source_any
 have HL2:Hid (EvsAt w2 w.heap.size A l):=zh (HEV.o.2.below HB2.o)
 have a0:w2.cell? ⟨w.heap.size,0,none⟩=some (.slice A n cp):=by have h:=HX2.o;rw[←HPA.o]at h;exact h.cell 0
 have HZ2:Hid (w.heap.size≤w2.heap.size):=zh HB2.o.size
 have HN20:Hid (n≤20):=zh (by have:=HFO.o.len;have:=HEV.o.1;omega)
 obtain⟨zs,hzs⟩:∃zs,zzS=zs:=⟨_,rfl⟩
 have HZS:=zh hzs
 rw[hzs]at HSRC
 clear hzs
 go_wp2_with fail
 clear a0
 go_loopw [20] (fun iv wr=>∃k:Nat,k≤n∧iv = .int .i64 k∧Hid (∀(j:Nat) e,j<k→l[j]? = some e→e.src≠zs)∧Hid (Below w2.heap.size w2 wr)) (fun iv _=>n - (intOf iv).toNat)
 case atStart=>exact⟨0,Nat.zero_le _,rfl,zh (fun j e hj=>by omega),zh (Below.refl _ _)⟩
 case round=>
  obtain⟨k,hk,rfl,hok,hbw⟩:=hrel
  have hn20:=HN20.o
  by_cases hlt:k<n
  ·obtain⟨z,hz⟩:∃z,l[k]? = some z:=⟨l[k]'(by rw[HEV.o.1];exact hlt),List.getElem?_eq_getElem _⟩
   obtain⟨g,o,rfl,hgB,hcl⟩:=HL2.o.at (by rw[HEV.o.1];omega)
   obtain⟨e0,e1,e2,e3,e4,e5,e6,e7⟩:EvAt wr g (o+k*8) z:=(hcl k z hz).keep (fun j=>hbw.o.cell (p:=⟨g,j,none⟩) (by have:=HZ2.o;show g<_;omega))
   have HZ:=zh hz
   have hk8:(k:Int)<(n:Int):=by omega
   have hk9:(0:Int)≤(k:Int):=by omega
   clear hcl hz hgB
   go_upto_region 6 with (first
    | (refine Zad _ rfl 31 (.tmp 4) (.tmp 23) rfl 0 (evArr z) rfl rfl (Blk.new _ _ _) (by show 0+8≤8;omega) ev_size8 (by simp[evArr,Value.oneCell']) ?_;intro we hbe hke hse)
    | fail)
   (try simp only[Exit.inBlock,Exit.then])
   simp only[evArr,putA,List.setIfInBounds_toArray,List.set_cons_zero,List.set_cons_succ]at hbe
   have HBE:Hid (Below w2.heap.size w2 we):=zh (hbw.o.trans ((((Below.refl _ _).alloc (zr _) _).trans (hke.toBelow (fun i hi=>by rw[hi];exact zr _) (by simp))).mono hbw.o.size))
   have HEB:Hid (Blk we wr.heap.size 31 (evArr z)):=zh hbe
   obtain⟨eb,heb⟩:∃eb,wr.heap.size=eb:=⟨_,rfl⟩
   rw[heb]at HEB
   try rw[heb]
   clear heb hbe hke hse e0 e1 e2 e3 e4 e5 e6 e7
   have HEC:Hid (∀W,Below we.heap.size we W→World.cell? W ⟨eb,0,none⟩=some (.string z.src)):=zh (fun W hb=>by
    have h:Blk W eb 31 (evArr z):=(hb.block _ HEB.o.lt).trans HEB.o
    exact h.cell 0)
   refine Zar (fun W=>Below we.heap.size we W) [(0,false),(1,false),(2,true),(3,false)] (by kernel_rfl) (by kernel_rfl) (below_drew (Below.refl _ _)) ?_
   simp only[planL,List.getElem?_cons_zero,List.getElem?_cons_succ]
   obtain⟨wd,hwd⟩:∃z,we.drew=z:=⟨_,rfl⟩
   have HBD:Hid (Below we.heap.size we wd):=zh (by rw[←hwd];exact below_drew (Below.refl _ _))
   rw[hwd]
   clear hwd
   repeat (first|(refine Zaf _ (by rfl) (fun W hW=>by (have x0:=HEC.o W hW;go_simp;try with_reducible rfl)) ?_;simp only[Act.put,xq1,xq2,xq3])|(refine Zac (by rfl) ?_;simp only[Act.put,xq1,xq2,xq3]))
   refine Zae ?_
   have HC:=zh (HSRC.o wd)
   go_wp2_with fail
   refine HC.o.mono ?_
   rintro e w7 ⟨rfl,rfl⟩
   clear HC
   go_wp2_with fail
   refine⟨HBD.o,?_⟩
   by_cases hs:z.src=zs
   ·have z1:(z.src.toList == zs.toList)=true:=str_t hs
    clear hs
    repeat (first|(refine Zaf _ (by rfl) (fun W hW=>by (have x0:=HEC.o W hW;go_simp;try with_reducible rfl)) ?_;simp only[Act.put,xq1,xq2,xq3])|(refine Zac (by rfl) ?_;simp only[Act.put,xq1,xq2,xq3]))
    refine Zah ?_
    have HC:=zh (awake41_any w7 (HLB.o w7 (HB2.o.trans ((HBE.o.trans (HBD.o.mono HBE.o.size)).mono HB2.o.size))))
    go_wp2_with fail
    refine HC.o.mono ?_
    rintro e wz ⟨rfl,hbz⟩
    have HBZ:Hid (Below w.heap.size w wz):=zh (HB2.o.trans ((HBE.o.trans ((HBD.o.trans (hbz.mono HBD.o.size)).mono HBE.o.size)).mono HB2.o.size))
    clear hbz HC
    go_wp2_with fail
    go_ret
    exact⟨rfl,HBZ.o⟩
   ·have z1:(z.src.toList == zs.toList)=false:=str_f hs
    have HNS:=zh hs
    clear hs
    repeat (first|(refine Zaf _ (by rfl) (fun W hW=>by (have x0:=HEC.o W hW;go_simp;try with_reducible rfl)) ?_;simp only[Act.put,xq1,xq2,xq3])|(refine Zac (by rfl) ?_;simp only[Act.put,xq1,xq2,xq3]))
    refine Zah ?_
    go_wp2_with fail
    go_roundw
    case rel=>
     refine⟨k+1,by omega,by go_num,zh (fun j e hj he=>?_),zh (HBE.o.trans (HBD.o.mono HBE.o.size))⟩
     by_cases h:j=k
     ·subst h;rw[HZ.o]at he;cases he;exact HNS.o
     ·exact hok.o j e (by omega) he
    case measure=>simp[intOf];omega
  ·obtain rfl:n=k:=by omega
   have HNZ:Hid (∀e∈l,e.src≠zs):=zh (fun e he=>by
    obtain⟨j,hj⟩:=List.mem_iff_getElem?.1 he
    have:=(List.getElem?_eq_some_iff.1 hj).1
    exact hok.o j e (by rw[←HEV.o.1];exact this) hj)
   have hkk:¬(n:Int)<(n:Int):=by omega
   have HX2b:Hid (Blk wr w.heap.size 74 pa):=zh ((hbw.o.block _ HX2.o.lt).trans HX2.o)
   have HB2b:Hid (Below w.heap.size w wr):=zh (HB2.o.trans (hbw.o.mono HB2.o.size))
   clear hlt hk hok HX2 HB2 HL2 HZ2 hbw hn20
   obtain⟨w2,rfl⟩:∃W,W=wr:=⟨_,rfl⟩
   have HX2:=HX2b
   have HB2:=HB2b
   clear HX2b HB2b
   have HC:=zh (sof_any x HSM.o w2)
   have HMC:Hid (∀(j:Nat) v,(smArr x)[j]? = some v→World.cell? w2 ⟨w.heap.size,1+j,none⟩=some v):=zh (by
    have h:=HX2.o
    rw[←HPA.o]at h
    exact fun j v hv=>play_sm h j v hv)
   obtain⟨sm,hsm⟩:∃sm,smArr x=sm:=⟨_,rfl⟩
   have HMI:Hid ((Tryz.prog.info? 72).map (·.size)=some sm.size):=zh (by rw[←hsm];exact sm_info)
   unfold smA at HC
   rw[hsm]at HC HMC
   clear hsm
   go_wp2_with (first
    | (refine wpList_load_at rfl 72 _ rfl w.heap.size 1 rfl sm HMC.o Tryz.underlying72 rfl HMI.o ?_)
    | fail)
   refine HC.o.mono ?_
   rintro e w3 ⟨s,rfl,hsl,hb3⟩
   have HB3:Hid (Below w.heap.size w w3):=zh (HB2.o.trans (hb3.mono HB2.o.size))
   have HX3:Hid (Blk w3 w.heap.size 74 pa):=zh ((hb3.block _ HX2.o.lt).trans HX2.o)
   have HSL:=zh hsl
   clear HC hb3 hsl HMC HX2
   go_upto_region 10 with (first
    | (refine Zad _ rfl 80 (.tmp 5) (.tmp 32) rfl 0 (sgArr s) rfl rfl (Blk.new _ _ _) (by show 0+22≤22;omega) Zb6 (by simp[sgArr,Value.oneCell']) ?_;intro w4 hb4 hk4 hs4)
    | fail)
   (try simp only[Exit.inBlock,Exit.then])
   simp only[sgArr,putA,List.setIfInBounds_toArray,List.set_cons_zero,List.set_cons_succ]at hb4
   have hx4:Blk w4 w3.heap.size 80 (sgArr s):=hb4
   have HB34:Hid (Below w3.heap.size w3 w4):=zh (((Below.refl _ _).alloc (zr _) _).trans (hk4.toBelow (fun i hi=>by rw[hi];exact zr _) (by simp)))
   obtain⟨sb,hsb⟩:∃sb,w3.heap.size=sb:=⟨_,rfl⟩
   rw[hsb]at hx4
   have HX4:Hid (Blk w4 w.heap.size 74 pa):=zh ((HB34.o.block _ HX3.o.lt).trans HX3.o)
   have HB4:Hid (Below w.heap.size w w4):=zh (HB3.o.trans (HB34.o.mono HB3.o.size))
   have HS4:Hid (Blk w4 sb 80 (sgArr s)):=zh hx4
   clear hb4 hk4 hs4 hx4 HB34 HX3
   try rw[hsb]
   clear hsb
   have HLB4:=HLB.o w4 HB4.o
   have HC:=zh (wof_any x.cfg w4 w4.heap.size A l n cp HFO.o.cfg HEV.o.1 (RowIn.more (HEV.o.2.below HB4.o) HB4.o.size) (zr _) (by have:=HFO.o.len;have:=HEV.o.1;omega) HFO.o.ok HLB4.g HLB4.k HLB4.t)
   have c0:w4.cell? ⟨sb,0,none⟩=some (.int .i64 x.cfg.half):=by have h:=HS4.o.cell 0;rw[←HSL.o.cfg];exact h
   have c1:w4.cell? ⟨sb,1,none⟩=some (.int .i64 x.cfg.width):=by have h:=HS4.o.cell 1;rw[←HSL.o.cfg];exact h
   have c2:w4.cell? ⟨sb,2,none⟩=some (.int .i64 x.cfg.gap):=by have h:=HS4.o.cell 2;rw[←HSL.o.cfg];exact h
   have c3:w4.cell? ⟨sb,3,none⟩=some (.int .i64 x.cfg.span):=by have h:=HS4.o.cell 3;rw[←HSL.o.cfg];exact h
   have c4:w4.cell? ⟨sb,4,none⟩=some (.int .i64 x.cfg.floor):=by have h:=HS4.o.cell 4;rw[←HSL.o.cfg];exact h
   have c5:w4.cell? ⟨sb,5,none⟩=some (.int .i64 x.cfg.crowd):=by have h:=HS4.o.cell 5;rw[←HSL.o.cfg];exact h
   have a0:w4.cell? ⟨w.heap.size,0,none⟩=some (.slice A n cp):=by have h:=HX4.o;rw[←HPA.o]at h;exact h.cell 0
   unfold cfgA at HC
   clear HLB4
   go_wp2_with fail
   refine HC.o.mono ?_
   rintro e w5 ⟨wb,base,E,rfl,han,hwa,_,hb5⟩
   obtain⟨ct,cr,hw5⟩:=hwa.read
   have HW5:=zh hw5
   have HB5:Hid (Below w.heap.size w w5):=zh (HB4.o.trans (hb5.mono HB4.o.size))
   have HX5:Hid (Blk w5 w.heap.size 74 pa):=zh ((hb5.block _ HX4.o.lt).trans HX4.o)
   have HS5:Hid (Blk w5 sb 80 (sgArr s)):=zh ((hb5.block _ HS4.o.lt).trans HS4.o)
   have HNE:Hid (WnE 200 E):=zh ⟨han.closed,fun e he=>HFO.o.ok e (han.sub he),by have:=han.few;have:=HFO.o.len;omega⟩
   have HANW:=zh han
   clear han hwa hb5 HC c0 c1 c2 c3 c4 c5 a0 hw5 HX4 HS4 HB4 HB3
   obtain⟨r,ra,hsy0,hr0⟩:=Ru.Zth (x.wh.toNat % 4)
   have HSG:Hid (SgOk s r):=zh (HSL.o.ok HFO.o.cfg hsy0)
   have HPC:Hid (∀W,Below w5.heap.size w5 W→World.cell? W ⟨w.heap.size,2+17,none⟩=some (.string p)∧World.cell? W ⟨w.heap.size,3+17,none⟩=some (.string i)∧World.cell? W ⟨w.heap.size,4+17,none⟩=some (.int .i64 now)):=zh (fun W hb=>by
    have h:Blk W w.heap.size 74 pa:=(hb.block _ HX5.o.lt).trans HX5.o
    rw[←HPA.o]at h
    exact⟨h.cell 19,h.cell 20,h.cell 21⟩)
   clear hsy0
   have HOFY:Hid (toldB p i now=true→∀W,Below w5.heap.size w5 W→Calls Tryz.prog 41 #[.pointer (some ⟨wb,0,none⟩),sgA s,.string p,.string i,.int .i64 now] W (WhOf E x.cfg p i now r W)):=zh (fun ht W hb=>whof_yes (HW5.o.below hb) HNE.o HFO.o.cfg HFO.o.crowd s r HSG.o p i now ht (HLB.o W (HB5.o.trans (hb.mono HB5.o.size))))
   have HOFN:Hid (toldB p i now=false→∀W,Below w5.heap.size w5 W→Calls Tryz.prog 41 #[.pointer (some ⟨wb,0,none⟩),sgA s,.string p,.string i,.int .i64 now] W fun e w'=>e = .returned (.slice none 0 0)∧Below W.heap.size W w'):=zh (fun ht W hb=>whof_no W wb s r HSG.o p i now HFO.o.p HFO.o.i ht (HLB.o W (HB5.o.trans (hb.mono HB5.o.size))))
   have HAW:Hid (∀W,Below w5.heap.size w5 W→Calls Tryz.prog 39 #[] W fun e w'=>e = .returned (.bool true)∧Below W.heap.size W w'):=zh (fun W hb=>awake41_any W (HLB.o W (HB5.o.trans (hb.mono HB5.o.size))))
   obtain⟨sa,hsa⟩:∃sa,sgArr s=sa:=⟨_,rfl⟩
   have HSI:Hid ((Tryz.prog.info? 80).map (·.size)=some sa.size):=zh (by rw[←hsa];exact Zb6)
   unfold sgA at HOFY HOFN
   rw[hsa]at HS5 HOFY HOFN
   have HSB:Hid (∀W,Below w5.heap.size w5 W→Blk W sb 80 sa):=zh (fun W hb=>(hb.block _ HS5.o.lt).trans HS5.o)
   have HPB:Hid (∀W,Below w5.heap.size w5 W→Blk W w.heap.size 74 pa):=zh (fun W hb=>(hb.block _ HX5.o.lt).trans HX5.o)
   have HR0:Hid (Below w5.heap.size w5 w5):=zh (Below.refl _ _)
   clear hsa HB2 HB1
   obtain⟨tb,htb⟩:∃tb,toldB p i now=tb:=⟨_,rfl⟩
   rw[htb]at HOFY HOFN
   have HTB:=zh htb
   clear htb
   have HS5b:=zh (HSB.o w5 HR0.o)
   obtain⟨a2,a3,a4⟩:=HPC.o w5 HR0.o
   cases tb with
   | false=>
    have HC:=zh (HOFN.o (by first|rfl|trivial) w5 HR0.o)
    go_wp2_with (first
     | (refine wpList_load_row rfl 80 _ rfl sb rfl 80 sa (0,0) _ HS5b.o Tryz.underlying80 rfl HSI.o ?_)
     | fail)
    refine HC.o.mono ?_
    rintro e w6 ⟨rfl,hb6⟩
    have HB6:Hid (Below w5.heap.size w5 w6):=zh hb6
    clear hb6 HC
    go_wp2_with fail
    go_loopw [57] (fun iv wr=>iv = .int .i64 0∧Hid (Below w5.heap.size w5 wr)) (fun _ _=>0)
    case atStart=>exact⟨rfl,HB6⟩
    case round=>
     obtain⟨rfl,HBR⟩:=hrel
     have HC:=zh (HAW.o wr HBR.o)
     go_wp2_with fail
     refine HC.o.mono ?_
     rintro e wz ⟨rfl,hbz⟩
     have HBZ:Hid (Below w.heap.size w wz):=zh (HB5.o.trans ((HBR.o.trans (hbz.mono HBR.o.size)).mono HB5.o.size))
     clear hbz HC
     go_wp2_with fail
     go_ret
     exact⟨rfl,HBZ.o⟩
   | true=>
    have HC:=zh (HOFY.o (by first|rfl|trivial) w5 HR0.o)
    go_wp2_with (first
     | (refine wpList_load_row rfl 80 _ rfl sb rfl 80 sa (0,0) _ HS5b.o Tryz.underlying80 rfl HSI.o ?_)
     | fail)
    refine HC.o.mono ?_
    rintro e w6 ⟨lc,E2,A2,c2,us,rfl,hch,hrow,hins,hnil,hb6⟩
    have HCK:=zh (WhOf.parts hch HNE.o HFO.o.crowd HTB.o)
    have HCH:=zh hch
    have HGR:Hid (grtN E≤0):=zh (Zof (Int.le_refl _) (fun e he hs=>absurd (hs.trans HZS.o) (HNZ.o e (HANW.o.sub he))))
    have HCN:Hid (∀x∈lc,(x.2 = []↔x.1=4∨x.1=6)):=zh (by
     obtain⟨hp,hi,hn1,hn2⟩:=Zek HTB.o
     exact chain_none hp hi ⟨hn1,hn2⟩ HFO.o.crowd hch 0 (by omega) (by omega) ⟨HNE.o.closed,HNE.o.ok,by have:=HNE.o.few;omega⟩ (by simpa using HGR.o))
    have HB6:Hid (Below w5.heap.size w5 w6):=zh hb6
    obtain⟨m,hm⟩:∃m,lc.length=m:=⟨_,rfl⟩
    have HM:Hid (lc.length=m∧m≤6):=zh ⟨hm,by have:=HCK.o.few;omega⟩
    rw[hm]at hrow ⊢
    have HROW:=zh (And.intro hrow hins)
    clear hb6 HC hch hrow hins hnil hm
    go_wp2_with fail
    go_loopw [57] (fun iv wr=>∃k:Nat,k≤m∧iv = .int .i64 k∧Hid (Below w6.heap.size w6 wr)) (fun iv _=>m - (intOf iv).toNat)
    case atStart=>exact⟨0,Nat.zero_le _,rfl,zh (Below.refl _ _)⟩
    case round=>
     obtain⟨k,hk,rfl,HBR⟩:=hrel
     have HBR5:Hid (Below w5.heap.size w5 wr):=zh (HB6.o.trans (HBR.o.mono HB6.o.size))
     by_cases hlt:k<m
     ·obtain⟨z,hz⟩:∃z,lc[k]? = some z:=⟨lc[k]'(by rw[HM.o.1];exact hlt),List.getElem?_eq_getElem _⟩
      obtain⟨u,hu⟩:∃u,us[k]? = some u:=⟨us[k]'(by rw[HROW.o.2.1,HM.o.1];exact hlt),List.getElem?_eq_getElem _⟩
      obtain⟨b,off,rfl,hb,hcl⟩:=HROW.o.1.at (by omega)
      obtain⟨hu1,A5,c5,hu2,he5,hnil5⟩:=HROW.o.2.2 k u z hu hz
      obtain⟨u1,u2⟩:=u
      dsimp only at hu1 hu2
      subst hu2
      obtain⟨k5,hk5⟩:∃k5,z.2.length=k5:=⟨_,rfl⟩
      rw[hk5]at hu
      have c0:World.cell? wr ⟨b,off+k*2,none⟩=some (.int .i64 (u1:Int)):=(HBR.o.cell (p:=⟨b,off+k*2,none⟩) hb).trans (hcl (k*2) _ (Zbi chC 2 Zos us k 0 _ hu (by omega)))
      have c1:World.cell? wr ⟨b,off+k*2+1,none⟩=some (.slice A5 k5 c5):=(HBR.o.cell (p:=⟨b,off+k*2+1,none⟩) hb).trans (hcl (k*2+1) _ (Zbi chC 2 Zos us k 1 _ hu (by omega)))
      have HZK:=zh (And.intro hz (And.intro hk5 hu1))
      have HE5:=zh he5
      have hk8:(k:Int)<(m:Int):=by omega
      have hk9:(0:Int)≤(k:Int):=by omega
      clear hcl hu he5 hnil5 hk5 hu1 hb
      go_upto_region 16 with (first
       | (refine Zad _ rfl 87 (.tmp 9) (.tmp 61) rfl 0 #[.int .i64 (u1:Int),.slice A5 k5 c5] rfl rfl (Blk.new _ _ _) (by show 0+2≤2;omega) Zjn (by simp[Value.oneCell']) ?_;intro w8 hb8 hk8 hs8)
       | fail)
      (try simp only[Exit.inBlock,Exit.then])
      simp only[putA,List.setIfInBounds_toArray,List.set_cons_zero,List.set_cons_succ]at hb8
      have HB8:Hid (Below w6.heap.size w6 w8):=zh (HBR.o.trans ((((Below.refl _ _).alloc (zr _) _).trans (hk8.toBelow (fun i hi=>by rw[hi];exact zr _) (by simp))).mono HBR.o.size))
      have HC8:Hid (Blk w8 wr.heap.size 87 #[.int .i64 (u1:Int),.slice A5 k5 c5]):=zh hb8
      obtain⟨cb,hcb⟩:∃cb,wr.heap.size=cb:=⟨_,rfl⟩
      rw[hcb]at HC8
      clear hb8 hk8 hs8 c0 c1
      try rw[hcb]
      clear hcb
      have HB85:Hid (Below w5.heap.size w5 w8):=zh (HB6.o.trans (HB8.o.mono HB6.o.size))
      have HS8:=zh (HSB.o w8 HB85.o)
      obtain⟨a2,a3,a4⟩:=HPC.o w8 HB85.o
      have HC:=zh (HOFY.o (by first|rfl|trivial) w8 HB85.o)
      go_wp2_with (first
       | (refine wpList_load_row rfl 80 _ rfl sb rfl 80 sa (0,0) _ HS8.o Tryz.underlying80 rfl HSI.o ?_)
       | fail)
      refine HC.o.mono ?_
      rintro e w9 ⟨lc2,E3,A3,c3,us3,rfl,hch3,hrow3,hins3,hnil3,hb9⟩
      have hdet:=chain_det HCH.o hch3
      rw[hdet,HM.o.1]at hrow3
      rw[hdet]at hins3
      rw[hdet,HM.o.1]
      have HROW3:=zh (And.intro hrow3 hins3)
      have HB9:Hid (Below w6.heap.size w6 w9):=zh (HB8.o.trans (hb9.mono HB8.o.size))
      have HC9:Hid (Blk w9 cb 87 #[.int .i64 (u1:Int),.slice A5 k5 c5]):=zh ((hb9.block _ HC8.o.lt).trans HC8.o)
      have HU1:Hid (1≤u1∧u1≤6):=zh (by
       have h:=HCK.o.lo z (List.mem_of_getElem? HZK.o.1)
       rw[HZK.o.2.2]
       omega)
      have HCC:Hid (∀W,Below w9.heap.size w9 W→World.cell? W ⟨cb,0,none⟩=some (.int .i64 (u1:Int))∧World.cell? W ⟨cb,1,none⟩=some (.slice A5 k5 c5)):=zh (fun W hb=>by
       have h:Blk W cb 87 #[.int .i64 (u1:Int),.slice A5 k5 c5]:=(hb.block _ HC9.o.lt).trans HC9.o
       exact⟨h.cell 0,h.cell 1⟩)
      have hm6:=HM.o.2
      clear hdet hch3 hrow3 hins3 hnil3 hb9 HC HC8 HS8 a2 a3 a4
      go_upto_region 17 with fail
      go_cut [88] (fun v wx=>v = .bool false∧Hid (Below w9.heap.size w9 wx))
      case first=>
       have du:((u1:Int) == 0)=false:=by rw[beq_eq_false_iff_ne];have:=HU1.o;omega
       by_cases hk0:k=0
       ·have dk:decide ((0:Int)<(k:Int))=false:=decide_eq_false (by omega)
        have nk:¬(0:Int)<(k:Int):=by omega
        have dk2:decide (0<k)=false:=decide_eq_false (by omega)
        clear hk0
        refine Zar (fun W=>Below w9.heap.size w9 W) [(0,false),(1,false),(2,false),(3,false),(4,false),(5,false),(6,false),(7,false),(8,false),(9,false),(10,false),(11,false),(12,false),(13,false),(14,false),(15,false),(16,false),(17,false)] (by kernel_rfl) (by kernel_rfl) (below_drew (Below.refl _ _)) ?_
        simp only[planL,List.getElem?_cons_zero,List.getElem?_cons_succ]
        obtain⟨wd,hwd⟩:∃z,w9.drew=z:=⟨_,rfl⟩
        have HBD:Hid (Below w9.heap.size w9 wd):=zh (by rw[←hwd];exact below_drew (Below.refl _ _))
        rw[hwd]
        clear hwd
        repeat (first|(refine Zaf _ (by rfl) (fun W hW=>by (obtain⟨x0,x1⟩:=HCC.o W hW;go_simp;try with_reducible rfl)) ?_;simp only[Act.put,xq1,xq2,xq3])|(refine Zac (by rfl) ?_;simp only[Act.put,xq1,xq2,xq3]))
        refine Zah ?_
        go_wp2_with fail
        go_meet
        exact⟨rfl,HBD⟩
       ·obtain⟨j,hj⟩:∃j,k=j+1:=⟨k - 1,by omega⟩
        obtain⟨y,hy⟩:∃y,lc[j]? = some y:=⟨lc[j]'(by rw[HM.o.1];omega),List.getElem?_eq_getElem _⟩
        obtain⟨v,hv⟩:∃v,us3[j]? = some v:=⟨us3[j]'(by rw[HROW3.o.2.1,HM.o.1];omega),List.getElem?_eq_getElem _⟩
        obtain⟨b3,o3,rfl,hb3,hcl3⟩:=HROW3.o.1.at (by omega)
        obtain⟨hv1,_⟩:=HROW3.o.2.2 j v y hv hy
        obtain⟨v1,v2⟩:=v
        dsimp only at hv1
        have HP3:Hid (∀W,Below w9.heap.size w9 W→World.cell? W ⟨b3,o3+j*2,none⟩=some (.int .i64 (v1:Int))):=zh (fun W hb=>(hb.cell (p:=⟨b3,o3+j*2,none⟩) hb3).trans (hcl3 (j*2) _ (Zbi chC 2 Zos us3 j 0 _ hv (by omega))))
        have hlt3:v1<u1:=by
         have hp:=List.pairwise_iff_getElem.1 HCK.o.rise j k (by rw[List.length_map,HM.o.1];omega) (by rw[List.length_map,HM.o.1];omega) (by omega)
         simp only[List.getElem_map]at hp
         rw[(List.getElem?_eq_some_iff.1 hy).2,(List.getElem?_eq_some_iff.1 HZK.o.1).2]at hp
         rw[hv1,HZK.o.2.2]
         exact hp
        have dl:decide ((u1:Int)≤(v1:Int))=false:=decide_eq_false (by omega)
        have nl:¬(u1:Int)≤(v1:Int):=by omega
        have dk:decide ((0:Int)<(k:Int))=true:=decide_eq_true (by omega)
        have nk:(0:Int)<(k:Int):=by omega
        have dk2:decide (0<k)=true:=decide_eq_true (by omega)
        have dl2:decide (u1≤v1)=false:=decide_eq_false (by omega)
        have hkj:IntKind.i64.wrap (j:Int)=(j:Int):=IntWalk.i64_in _ (by omega)
        have hkj2:(k:Int) - 1=(j:Int):=by omega
        have hj8:(j:Int)<(m:Int):=by omega
        have hj9:(0:Int)≤(j:Int):=by omega
        clear hy hv hb3 hcl3 hv1 hlt3 hj hk0
        refine Zar (fun W=>Below w9.heap.size w9 W) [(0,false),(1,false),(2,false),(3,false),(4,false),(5,false),(6,false),(7,false),(8,false),(9,false),(10,false),(11,false),(12,false),(13,false),(14,false),(15,false),(16,false),(17,false)] (by kernel_rfl) (by kernel_rfl) (below_drew (Below.refl _ _)) ?_
        simp only[planL,List.getElem?_cons_zero,List.getElem?_cons_succ]
        obtain⟨wd,hwd⟩:∃z,w9.drew=z:=⟨_,rfl⟩
        have HBD:Hid (Below w9.heap.size w9 wd):=zh (by rw[←hwd];exact below_drew (Below.refl _ _))
        rw[hwd]
        clear hwd
        repeat (first|(refine Zaf _ (by rfl) (fun W hW=>by (obtain⟨x0,x1⟩:=HCC.o W hW;have x3:=HP3.o W hW;go_simp;try with_reducible rfl)) ?_;simp only[Act.put,xq1,xq2,xq3])|(refine Zac (by rfl) ?_;simp only[Act.put,xq1,xq2,xq3]))
        refine Zah ?_
        go_wp2_with fail
        go_meet
        exact⟨rfl,HBD⟩
      case rest=>
      obtain⟨rfl,HBC⟩:=hcut
      obtain⟨wq,rfl⟩:∃z:World,z=wc:=⟨_,rfl⟩
      obtain⟨x0,x1⟩:=HCC.o wq HBC.o
      have HZC:Hid (k5=0↔u1=4∨u1=6):=zh (by
       have h:=HCN.o z (List.mem_of_getElem? HZK.o.1)
       rw[HZK.o.2.2,←h,←HZK.o.2.1,List.length_eq_zero_iff])
      go_upto_region 19 with fail
      go_cut [101] (fun v wx=>v = .bool false∧Hid (Below w9.heap.size w9 wx))
      case first=>
       by_cases h4:u1=4
       ·have d4:((u1:Int) == 4)=true:=by rw[beq_iff_eq];omega
        have dk:((k5:Int) == 0)=true:=by rw[beq_iff_eq];have:=HZC.o.2 (Or.inl h4);omega
        clear h4
        go_wp2_with fail
        go_meet
        exact⟨rfl,HBC⟩
       ·have d4:((u1:Int) == 4)=false:=by rw[beq_eq_false_iff_ne];omega
        by_cases h6:u1=6
        ·have d6:((u1:Int) == 6)=true:=by rw[beq_iff_eq];omega
         have dk:((k5:Int) == 0)=true:=by rw[beq_iff_eq];have:=HZC.o.2 (Or.inr h6);omega
         clear h4 h6
         go_wp2_with fail
         go_meet
         exact⟨rfl,HBC⟩
        ·have d6:((u1:Int) == 6)=false:=by rw[beq_eq_false_iff_ne];omega
         have dk:((k5:Int) == 0)=false:=by
          rw[beq_eq_false_iff_ne]
          intro e
          have:=HZC.o.1 (by omega)
          omega
         clear h4 h6
         go_wp2_with fail
         go_meet
         exact⟨rfl,HBC⟩
      case rest=>
      obtain⟨rfl,HBD⟩:=hcut
      obtain⟨wp,rfl⟩:∃z:World,z=wc:=⟨_,rfl⟩
      clear x0 x1 HBC
      obtain⟨x0,x1⟩:=HCC.o wp HBD.o
      have HK12:Hid (k5≤12):=zh (by rw[←HZK.o.2.1];exact chain_len HFO.o.crowd HCH.o z (List.mem_of_getElem? HZK.o.1))
      have HB95:Hid (Below w5.heap.size w5 w9):=zh (HB6.o.trans (HB9.o.mono HB6.o.size))
      have HZ69:Hid (w6.heap.size≤w9.heap.size):=zh HB9.o.size
      go_wp2_with fail
      clear x0 x1
      go_loopw [105] (fun iv w3=>∃j:Nat,j≤k5∧iv = .int .i64 j∧Hid (Below w9.heap.size w9 w3)) (fun iv _=>k5 - (intOf iv).toNat)
      case atStart=>exact⟨0,Nat.zero_le _,rfl,HBD⟩
      case round=>
       obtain⟨j,hj,rfl,HBV⟩:=hrel
       have hk12:=HK12.o
       by_cases hlt3:j<k5
       ·obtain⟨y,hy⟩:∃y,z.2[j]? = some y:=⟨z.2[j]'(by rw[HZK.o.2.1];exact hlt3),List.getElem?_eq_getElem _⟩
        obtain⟨g5,o5,rfl,hg5,hcl5⟩:=HE5.o.at (by rw[HZK.o.2.1];omega)
        obtain⟨e0,e1,e2,e3,e4,e5,e6,e7⟩:EvAt wr g5 (o5+j*8) y:=(hcl5 j y hy).keep (fun q=>(HB9.o.trans (HBV.o.mono HB9.o.size)).cell (p:=⟨g5,q,none⟩) hg5)
        have HYE:=zh (HCK.o.evs z (List.mem_of_getElem? HZK.o.1) y (List.mem_of_getElem? hy))
        have hj8:(j:Int)<(k5:Int):=by omega
        have hj9:(0:Int)≤(j:Int):=by omega
        clear hcl5 hy hg5
        go_upto_region 24 with (first
         | (refine Zad _ rfl 31 (.tmp 12) (.tmp 108) rfl 0 (evArr y) rfl rfl (Blk.new _ _ _) (by show 0+8≤8;omega) ev_size8 (by simp[evArr,Value.oneCell']) ?_;intro we hbe hke hse)
         | fail)
        (try simp only[Exit.inBlock,Exit.then])
        simp only[evArr,putA,List.setIfInBounds_toArray,List.set_cons_zero,List.set_cons_succ]at hbe
        have HBE:Hid (Below w9.heap.size w9 we):=zh (HBV.o.trans ((((Below.refl _ _).alloc (zr _) _).trans (hke.toBelow (fun i hi=>by rw[hi];exact zr _) (by simp))).mono HBV.o.size))
        have HEB:Hid (Blk we wr.heap.size 31 (evArr y)):=zh hbe
        obtain⟨eb,heb⟩:∃eb,wr.heap.size=eb:=⟨_,rfl⟩
        rw[heb]at HEB
        try rw[heb]
        clear heb hbe hke hse e0 e1 e2 e3 e4 e5 e6 e7
        have HBE5:Hid (Below w5.heap.size w5 we):=zh (HB95.o.trans (HBE.o.mono HB95.o.size))
        have HEC:Hid (∀W,Below we.heap.size we W→EvAt W eb 0 y∧World.cell? W ⟨w.heap.size,4+17,none⟩=some (.int .i64 now)):=zh (fun W hb=>by
         have h:Blk W eb 31 (evArr y):=(hb.block _ HEB.o.lt).trans HEB.o
         exact⟨⟨h.cell 0,h.cell 1,h.cell 2,h.cell 3,h.cell 4,h.cell 5,h.cell 6,h.cell 7⟩,(HPC.o W (HBE5.o.trans (hb.mono HBE5.o.size))).2.2⟩)
        have HMA:Hid (∀W,Below we.heap.size we W→Calls Tryz.prog 49 #[evA y] W fun e w'=>e = .returned (.bool true)∧Below W.heap.size W w'):=zh (fun W hb=>by
         have h:=may_any y W (EvSmall.sh HYE.o.1.2) (HLB.o W (HB5.o.trans ((HBE5.o.trans (hb.mono HBE5.o.size)).mono HB5.o.size))).g
         rw[HYE.o.1.1]at h
         exact h)
        have z1:(y.src.toList == zs.toList)=true:=str_t (HYE.o.2.1.trans HZS.o)
        have dt:decide (y.tick<now)=false:=decide_eq_false (by have:=HYE.o.2.2.1;omega)
        have nt:¬y.tick<now:=by have:=HYE.o.2.2.1;omega
        refine Zar (fun W=>Below we.heap.size we W) [(0,false),(1,true),(2,false),(3,false),(4,false),(5,false),(6,true),(7,false),(8,false),(9,false),(10,false),(11,false),(12,false),(13,false),(14,false),(15,false)] (by kernel_rfl) (by kernel_rfl) (below_drew (Below.refl _ _)) ?_
        simp only[planL,List.getElem?_cons_zero,List.getElem?_cons_succ]
        obtain⟨wd,hwd⟩:∃z,we.drew=z:=⟨_,rfl⟩
        have HBF:Hid (Below we.heap.size we wd):=zh (by rw[←hwd];exact below_drew (Below.refl _ _))
        rw[hwd]
        clear hwd
        repeat (first|(refine Zaf _ (by rfl) (fun W hW=>by (obtain⟨⟨e0,e1,e2,e3,e4,e5,e6,e7⟩,a4⟩:=HEC.o W hW;go_simp;try with_reducible rfl)) ?_;simp only[Act.put,xq1,xq2,xq3])|(refine Zac (by rfl) ?_;simp only[Act.put,xq1,xq2,xq3]))
        refine Zae ?_
        have HC:=zh (HMA.o wd HBF.o)
        unfold evA at HC
        go_wp2_with fail
        refine HC.o.mono ?_
        rintro e w11 ⟨rfl,hb11⟩
        have HB11:Hid (Below we.heap.size we w11):=zh (HBF.o.trans (hb11.mono HBF.o.size))
        clear HC hb11
        go_wp2_with fail
        refine⟨HB11.o,?_⟩
        repeat (first|(refine Zaf _ (by rfl) (fun W hW=>by (obtain⟨⟨e0,e1,e2,e3,e4,e5,e6,e7⟩,a4⟩:=HEC.o W hW;go_simp;try with_reducible rfl)) ?_;simp only[Act.put,xq1,xq2,xq3])|(refine Zac (by rfl) ?_;simp only[Act.put,xq1,xq2,xq3]))
        refine Zae ?_
        have HC:=zh (HSRC.o w11)
        go_wp2_with fail
        refine HC.o.mono ?_
        rintro e w12 ⟨rfl,rfl⟩
        clear HC
        go_wp2_with fail
        refine⟨HB11.o,?_⟩
        repeat (first|(refine Zaf _ (by rfl) (fun W hW=>by (obtain⟨⟨e0,e1,e2,e3,e4,e5,e6,e7⟩,a4⟩:=HEC.o W hW;go_simp;try with_reducible rfl)) ?_;simp only[Act.put,xq1,xq2,xq3])|(refine Zac (by rfl) ?_;simp only[Act.put,xq1,xq2,xq3]))
        refine Zah ?_
        go_wp2_with fail
        go_roundw
        case rel=>exact⟨j+1,by omega,by go_num,zh (HBE.o.trans (HB11.o.mono HBE.o.size))⟩
        case measure=>simp[intOf];omega
       ·obtain rfl:j=k5:=by omega
        have hjj:¬(j:Int)<(j:Int):=by omega
        clear hlt3
        go_wp2_with fail
        go_roundw
        case rel=>exact⟨k+1,by omega,by go_num,zh (HB9.o.trans (HBV.o.mono HB9.o.size))⟩
        case measure=>simp[intOf];omega
     ·obtain rfl:k=m:=by omega
      have hkk2:¬(k:Int)<(k:Int):=by omega
      clear hlt
      have HC:=zh (HAW.o wr HBR5.o)
      go_wp2_with fail
      refine HC.o.mono ?_
      rintro e wz ⟨rfl,hbz⟩
      have HBZ:Hid (Below w.heap.size w wz):=zh (HB5.o.trans ((HBR5.o.trans (hbz.mono HBR5.o.size)).mono HB5.o.size))
      clear hbz HC
      go_wp2_with fail
      go_ret
      exact⟨rfl,HBZ.o⟩
end Go.Proofs.YthdmpcnnbminlaaGreatDoor
