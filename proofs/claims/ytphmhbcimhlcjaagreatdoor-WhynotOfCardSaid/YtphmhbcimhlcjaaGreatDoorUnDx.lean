/- WhynotOf: the walk. -/
import Derived.Test.YtphmhbcimhlcjaaGreatDoorBu
namespace Go.Proofs.YtphmhbcimhlcjaaGreatDoor
open Go.Shelf Go.RowKit Go.Maps
open Ru (Fz fzA fzX Nd holdsR RuleV ruleT Says errOf ErrAt TabAt)
set_option linter.unusedVariables false
theorem chain_head {fm:Ev->ByteArray}{p i:ByteArray}{now crowd span:Int}{r:Option (Option Nd)}{es E':List Ev}{z:Nat×List Ev}{l:List (Nat×List Ev)}(h:ChainP fm p i now crowd span r es (z::l) E'):whyW es p i now crowd span r=z.1/\z.1≠0/\cureP es z.1 p i now crowd=z.2:=by
 cases h with
 | none h h0 hc=>exact⟨h,h0,hc⟩
 | more h h0 hc hne hE ht=>exact⟨h,h0,hc⟩
theorem chain_next {fm:Ev->ByteArray}{p i:ByteArray}{now crowd span:Int}{r:Option (Option Nd)}{es E' E3:List Ev}{z:Nat×List Ev}{l:List (Nat×List Ev)}(h:ChainP fm p i now crowd span r es (z::l) E')(hc:Closed es)(hE3:AnewIs fm (es++z.2) E3):ChainP fm p i now crowd span r E3 l E'\/(l = []/\E3=E'):=by
 cases h with
 | none h h0 hcu=>exact Or.inr ⟨rfl,Zod hc (by rw[List.append_nil]at hE3;exact hE3)⟩
 | more h h0 hcu hne hE ht=>
  obtain rfl:=Za3 hE.sorted hE3.sorted (fun e=>by rw[hE.mem,hE3.mem]);exact Or.inl ht
theorem chain_end {fm:Ev->ByteArray}{p i:ByteArray}{now crowd span:Int}{r:Option (Option Nd)}{es E':List Ev}(h:ChainP fm p i now crowd span r es [] E'\/(([]:List (Nat×List Ev)) = []/\es=E')):es=E':=by
 rcases h with h|h
 ·cases h with
  | stop _=>rfl
 ·exact h.2
theorem chain_last {p i:ByteArray}{now crowd span:Int}{r:Option (Option Nd)}{y0:Nat}{es E':List Ev}{l:List (Nat×List Ev)}(h:ChainOk p i now crowd span r y0 es l E'):(whyW E' p i now crowd span r=0↔¬∃j z,l.length=j+1/\l[j]? = some z/\z.2 = []):=by
 constructor
 ·rintro h0 ⟨j,z,h1,h2,h3⟩;exact (h.none j z h2 h3).2 h0
 ·intro hn;refine h.last (fun x hx h3=>?_);obtain⟨j,hj⟩:=List.mem_iff_getElem?.1 hx;exact hn ⟨j,x,(h.none j x hj h3).1.symm,hj,h3⟩
set_option maxHeartbeats 8000000 in
set_option maxRecDepth 100000 in
theorem whynotOf_walk (A:Option Addr)(n cp:Nat)(l:List Ev)(x:Sm)(p i:ByteArray)(now:Int)(w:World)(h:PlayIn w A n cp l x p i now):Calls Tryz.prog 3 #[plA A n cp x p i now] w (TrueR w):=by
 obtain⟨⟨hn,hev,hbig,hnil,hbd⟩,hlib,hsm,hpz,hiz,hnow⟩:=h;obtain⟨w1,hw1⟩:=zG (w.alloc (.cells (plArr A n cp x p i now) 30));have HX1:Hid (Blk w1 w.heap.size 30 (plArr A n cp x p i now)):=zB hw1;have HB1:=zA hw1;have HLB:Hid (∀W,Below w.heap.size w W->Lb2 W):=zh (fun W hb=>hlib.keep hb);have HC:=zh (few41_any A n cp l x p i now w1 ⟨hn,RowIn.more (hev.below HB1.o) HB1.o.size,hbig,hnil,hbd⟩ (by unfold maxLen;omega) (by unfold maxLen;omega));have HEV:=zh (And.intro hn hev);have HSM:=zh hsm;have HNOW:=zh hnow;have HTO:Hid (p.size<=60->i.size<=60->∀W,Calls Tryz.prog 10 #[plA A n cp x p i now] W fun e w'=>e = .returned (.bool (toldB p i now))/\Below W.heap.size W w'):=zh (fun h1 h2 W=>told41_any A n cp x p i now W h1 h2);obtain⟨pa,hpa⟩:=zG (plArr A n cp x p i now);have HPA:=zh hpa;unfold plA at HC HTO ⊢;rw[hpa]at hw1 HX1 HC HTO ⊢;have HPI:Hid ((Tryz.prog.info? 30).map (·.size)=some pa.size):=zh (by rw[<-hpa];exact play_info);clear hn hev hbig hnil hbd hlib hsm hpz hiz hnow hpa;go_enter Tryz.func3,Tryz.ntmps3
 go_wp2_with (first
  | (refine wpList_load_row rfl 30 _ rfl w.heap.size rfl 30 pa (0,0) _ HX1.o Tryz.underlying30 rfl HPI.o ?_)
  | fail)
 refine HC.o.mono ?_;rintro e w2 ⟨b,rfl,hbf,hb2⟩;have HB2:=zT HB1 hb2;have HX2:Hid (Blk w2 w.heap.size 30 pa):=zX HX1 hb2;clear HC hb2 hw1 HX1;cases b with
 | false=>
  have HC:=zh (awake41_any w2 (HLB.o w2 HB2.o));go_wp2_with fail;refine HC.o.mono ?_;rintro e w3 ⟨rfl,hb3⟩;have HB3:=zT HB2 hb3;clear hb3 HC;go_wp2_with fail;go_ret;exact⟨rfl,HB3.o⟩
 | true=>
 have HFO:=zh (hbf rfl);clear hbf;have HC:=zh (sof_any x HSM.o w2)
 have HMC:Hid (∀(j:Nat) v,(smArr x)[j]? = some v->World.cell? w2 ⟨w.heap.size,1+j,none⟩=some v):=zh (by
  have h:=HX2.o;rw[<-HPA.o]at h;exact fun j v hv=>play_sm h j v hv)
 obtain⟨sm,hsm⟩:=zG (smArr x);have HMI:Hid ((Tryz.prog.info? 28).map (·.size)=some sm.size):=zh (by rw[<-hsm];exact sm_info);unfold smA at HC;rw[hsm]at HC HMC;clear hsm
 go_wp2_with (first
  | (refine wpList_load_at rfl 28 _ rfl w.heap.size 1 rfl sm HMC.o Tryz.underlying28 rfl HMI.o ?_)
  | fail)
 refine HC.o.mono ?_;rintro e w3 ⟨s,rfl,hsl,hb3⟩;have HB3:=zT HB2 hb3;have HX3:Hid (Blk w3 w.heap.size 30 pa):=zX HX2 hb3;have HSL:=zh hsl;clear HC hb3 hsl HMC HX2
 go_upto_region 4 with (first
  | (refine Zad _ rfl 37 (.tmp 3) (.tmp 24) rfl 0 (sgArr s) rfl rfl (Blk.new _ _ _) (by show 0+22<=22;omega) Zb6 (by simp[sgArr,Value.oneCell']) ?_;intro w4 hb4 hk4 hs4)
  | fail)
 (try simp only[Exit.inBlock,Exit.then])
 simp only[sgArr,putA,List.setIfInBounds_toArray,List.set_cons_zero,List.set_cons_succ]at hb4;have hx4:Blk w4 w3.heap.size 37 (sgArr s):=hb4;have HB34:Hid (Below w3.heap.size w3 w4):=zh (((Below.refl _ _).alloc (zr _) _).trans (hk4.toBelow (fun i hi=>by rw[hi];exact zr _) (by simp)));obtain⟨sb,hsb⟩:=zG (w3.heap.size);rw[hsb]at hx4;have HX4:Hid (Blk w4 w.heap.size 30 pa):=zh ((HB34.o.block _ HX3.o.lt).trans HX3.o);have HB4:=zT HB3 HB34.o;have HS4:Hid (Blk w4 sb 37 (sgArr s)):=zh hx4;clear hb4 hk4 hs4 hx4 HB34 HX3;try rw[hsb]
 clear hsb;have HLB4:=HLB.o w4 HB4.o;have HC:=zh (wof_any x.cfg w4 w4.heap.size A l n cp HFO.o.cfg HEV.o.1 (RowIn.more (HEV.o.2.below HB4.o) HB4.o.size) (zr _) (by have:=HFO.o.len;have:=HEV.o.1;omega) HFO.o.ok HLB4.g HLB4.k HLB4.t);have c0:w4.cell? ⟨sb,0,none⟩=some (.int .i64 x.cfg.half):=by have h:=HS4.o.cell 0;rw[<-HSL.o.cfg];exact h
 have c1:w4.cell? ⟨sb,1,none⟩=some (.int .i64 x.cfg.width):=by have h:=HS4.o.cell 1;rw[<-HSL.o.cfg];exact h
 have c2:w4.cell? ⟨sb,2,none⟩=some (.int .i64 x.cfg.gap):=by have h:=HS4.o.cell 2;rw[<-HSL.o.cfg];exact h
 have c3:w4.cell? ⟨sb,3,none⟩=some (.int .i64 x.cfg.span):=by have h:=HS4.o.cell 3;rw[<-HSL.o.cfg];exact h
 have c4:w4.cell? ⟨sb,4,none⟩=some (.int .i64 x.cfg.floor):=by have h:=HS4.o.cell 4;rw[<-HSL.o.cfg];exact h
 have c5:w4.cell? ⟨sb,5,none⟩=some (.int .i64 x.cfg.crowd):=by have h:=HS4.o.cell 5;rw[<-HSL.o.cfg];exact h
 have a0:w4.cell? ⟨w.heap.size,0,none⟩=some (.slice A n cp):=by have h:=HX4.o;rw[<-HPA.o]at h;exact h.cell 0
 unfold cfgA at HC;clear HLB4;go_wp2_with fail;refine HC.o.mono ?_;rintro e w5 ⟨wb,base,E,rfl,han,hwa,_,hb5⟩;obtain⟨ct,cr,hw5⟩:=hwa.read;have HW5:=zh hw5;have HB5:=zT HB4 hb5;have HX5:Hid (Blk w5 w.heap.size 30 pa):=zX HX4 hb5;have HS5:Hid (Blk w5 sb 37 (sgArr s)):=zX HS4 hb5;have HNE:Hid (WnE 200 E):=zh ⟨han.closed,fun e he=>HFO.o.ok e (han.sub he),by have:=han.few;have:=HFO.o.len;omega⟩;have HANW:=zh han;clear han hwa hb5 HC c0 c1 c2 c3 c4 c5 a0 hw5 HX4 HS4 HB4 HB3;obtain⟨r,ra,hsy0,hr0⟩:=Ru.Zth (x.wh.toNat % 4);have HSY:=zh hsy0;have HSG:Hid (SgOk s r):=zh (HSL.o.ok HFO.o.cfg hsy0)
 have HPC:Hid (∀W,Below w5.heap.size w5 W->World.cell? W ⟨w.heap.size,2+17,none⟩=some (.string p)/\World.cell? W ⟨w.heap.size,3+17,none⟩=some (.string i)/\World.cell? W ⟨w.heap.size,4+17,none⟩=some (.int .i64 now)):=zh (fun W hb=>by
  have h:Blk W w.heap.size 30 pa:=(hb.block _ HX5.o.lt).trans HX5.o;rw[<-HPA.o]at h;exact⟨h.cell 19,h.cell 20,h.cell 21⟩)
 have HRUL:Hid (∀W,Below w5.heap.size w5 W->World.cell? W ⟨sb,19,none⟩=some (.string (Ru.ruleL (x.wh.toNat % 4)))):=zh (fun W hb=>by
  have h:Blk W sb 37 (sgArr s):=(hb.block _ HS5.o.lt).trans HS5.o;rw[<-HSL.o.rule];exact h.cell 19)
 clear hsy0;have HOFY:Hid (toldB p i now=true->∀W,Below w5.heap.size w5 W->Calls Tryz.prog 9 #[.pointer (some ⟨wb,0,none⟩),sgA s,.string p,.string i,.int .i64 now] W (WhOf E x.cfg p i now r W)):=zh (fun ht W hb=>whof_yes (HW5.o.below hb) HNE.o HFO.o.cfg HFO.o.crowd s r HSG.o p i now ht (HLB.o W (HB5.o.trans (hb.mono HB5.o.size))));have HOFN:Hid (toldB p i now=false->∀W,Below w5.heap.size w5 W->Calls Tryz.prog 9 #[.pointer (some ⟨wb,0,none⟩),sgA s,.string p,.string i,.int .i64 now] W fun e w'=>e = .returned (.slice none 0 0)/\Below W.heap.size W w'):=zh (fun ht W hb=>whof_no W wb s r HSG.o p i now HFO.o.p HFO.o.i ht (HLB.o W (HB5.o.trans (hb.mono HB5.o.size))));have HAW:Hid (∀W,Below w5.heap.size w5 W->Calls Tryz.prog 6 #[] W fun e w'=>e = .returned (.bool true)/\Below W.heap.size W w'):=zh (fun W hb=>awake41_any W (HLB.o W (HB5.o.trans (hb.mono HB5.o.size))));have HTD:=zh (HTO.o HFO.o.p HFO.o.i)
 have HCFC:Hid (∀W,Below w5.heap.size w5 W->World.cell? W ⟨sb,0,none⟩=some (.int .i64 x.cfg.half)/\World.cell? W ⟨sb,1,none⟩=some (.int .i64 x.cfg.width)/\World.cell? W ⟨sb,2,none⟩=some (.int .i64 x.cfg.gap)/\World.cell? W ⟨sb,3,none⟩=some (.int .i64 x.cfg.span)/\World.cell? W ⟨sb,4,none⟩=some (.int .i64 x.cfg.floor)/\World.cell? W ⟨sb,5,none⟩=some (.int .i64 x.cfg.crowd)):=zh (fun W hb=>by
  have h:Blk W sb 37 (sgArr s):=(hb.block _ HS5.o.lt).trans HS5.o;rw[<-HSL.o.cfg];exact⟨h.cell 0,h.cell 1,h.cell 2,h.cell 3,h.cell 4,h.cell 5⟩)
 obtain⟨sa,hsa⟩:=zG (sgArr s);have HSI:Hid ((Tryz.prog.info? 37).map (·.size)=some sa.size):=zh (by rw[<-hsa];exact Zb6);unfold sgA at HOFY HOFN;rw[hsa]at HS5 HOFY HOFN;have HSB:Hid (∀W,Below w5.heap.size w5 W->Blk W sb 37 sa):=zh (fun W hb=>(hb.block _ HS5.o.lt).trans HS5.o);have HPB:Hid (∀W,Below w5.heap.size w5 W->Blk W w.heap.size 30 pa):=zh (fun W hb=>(hb.block _ HX5.o.lt).trans HX5.o);have HR0:Hid (Below w5.heap.size w5 w5):=zh (Below.refl _ _);clear hsa HTO HB2 HB1;obtain⟨tb,htb⟩:=zG (toldB p i now);rw[htb]at HOFY HOFN HTD;have HTB:=zh htb;clear htb;obtain⟨a2,a3,a4⟩:=HPC.o w5 HR0.o;cases tb with
 | false=>
  have HC:=zh (HOFN.o (by first|rfl|trivial) w5 HR0.o)
  go_wp2_with (first
   | (refine Zel (by rfl) 37 _ rfl sb rfl 37 sa (0,0) _ HS5.o Tryz.underlying37 rfl HSI.o ?_)
   | fail)
  refine HC.o.mono ?_;rintro e w6 ⟨rfl,hb6⟩;have HB6:Hid (Below w5.heap.size w5 w6):=zh hb6;have HX6:=zh (HPB.o w6 HB6.o);have HC6:=zh (HTD.o w6);clear hb6 HC a2 a3 a4
  go_wp2_with (first
   | (refine wpList_load_row rfl 30 _ rfl w.heap.size rfl 30 pa (0,0) _ HX6.o Tryz.underlying30 rfl HPI.o ?_)
   | fail)
  refine HC6.o.mono ?_;rintro e w7 ⟨rfl,hb7⟩;have HB7:=zT HB6 hb7;clear hb7 HC6 HX6;have HC:=zh (HAW.o w7 HB7.o);go_wp2_with fail;refine HC.o.mono ?_;rintro e wz ⟨rfl,hbz⟩;have HBZ:Hid (Below w.heap.size w wz):=zh (HB5.o.trans ((HB7.o.trans (hbz.mono HB7.o.size)).mono HB5.o.size));clear hbz HC;go_wp2_with fail;go_ret;exact⟨rfl,HBZ.o⟩
 | true=>
 have HC:=zh (HOFY.o (by first|rfl|trivial) w5 HR0.o)
 go_wp2_with (first
  | (refine Zel (by rfl) 37 _ rfl sb rfl 37 sa (0,0) _ HS5.o Tryz.underlying37 rfl HSI.o ?_)
  | fail)
 refine HC.o.mono ?_;rintro e w6 ⟨lc,E2,A2,c2,us,rfl,hch,hrow,hins,hnil,hb6⟩;have HCK:=zh (WhOf.parts hch HNE.o HFO.o.crowd HTB.o);have HCL:=zh (chain_last HCK.o);have HCH:=zh hch;have HB6:Hid (Below w5.heap.size w5 w6):=zh hb6;obtain⟨m,hm⟩:=zG (lc.length);have HM:Hid (lc.length=m/\m<=6):=zh ⟨hm,by have:=HCK.o.few;omega⟩;rw[hm]at hrow ⊢;have HROW:=zh (And.intro hrow hins);have HX6:=zh (HPB.o w6 HB6.o);have HC6:=zh (HTD.o w6);clear hb6 HC hch hrow hins hnil hm a2 a3 a4
 go_wp2_with (first
  | (refine wpList_load_row rfl 30 _ rfl w.heap.size rfl 30 pa (0,0) _ HX6.o Tryz.underlying30 rfl HPI.o ?_)
  | fail)
 refine HC6.o.mono ?_;rintro e w7 ⟨rfl,hb7⟩;have HB67:Hid (Below w6.heap.size w6 w7):=zh hb7;have HB7:=zT HB6 hb7;have hru:=HRUL.o w7 HB7.o;obtain⟨rl,hrl⟩:=zG (Ru.ruleL (x.wh.toNat % 4));have HRZ:Hid (rl.size<=1000):=zh (by rw[<-hrl];exact Ru.Zl9 _);rw[hrl]at hru HSY
 have HC:=zh (Ru.parse_any rl w7 (by have:=HRZ.o;omega) (fun V hV=>by
  have k:=HLB.o V (HB5.o.trans ((HB7.o.trans (hV.mono HB7.o.size)).mono HB5.o.size));exact⟨k.e,k.t⟩))
 clear hrl HRUL hb7 HC6 HX6;go_wp2_with fail;refine HC.o.mono ?_;rintro e w8 ⟨r',at_,v,hsy,rfl,hv,hb8⟩;obtain rfl:r'=some r:=(hsy.det HSY.o).1;obtain⟨qq,rfl,hq⟩:=Zn2 hv;have HR8:Hid (RlIs w8 w7.heap.size (some r) qq):=zh ⟨by rw[Ne,hq];simp,hv,hsy.sz⟩;have e0:errOf (some r)=0:=rfl;rw[e0];have HB8:=zT HB7 hb8;have HB68:=zT HB67 hb8;have HW8:=zh (HW5.o.below HB8.o);have HTP:=zh (Zek HTB.o);have HSZ:Hid (p.size<=24/\i.size<=24):=zh ⟨Zay HTP.o.1,Zay HTP.o.2.1⟩;clear hsy hv hb8 HC hru e0 hq
 have HOF:Hid (∀W wb' ct' cr' E',Below w8.heap.size w8 W->WrAt W wb' ct' cr' x.cfg E'->WnE 300 E'->Calls Tryz.prog 12 #[.pointer (some ⟨wb',0,none⟩),.string p,.string i,.int .i64 now,.pointer qq] W fun e w'=>e = .returned (.int .i64 (whyW E' p i now x.cfg.crowd x.cfg.span (some r):Nat))/\Below W.heap.size W w'):=zh (fun W wb' ct' cr' E' hb hW hE=>by
  have hs:=HSZ.o;exact of_any W wb' ct' cr' x.cfg E' p i now qq (okP (some r)) hW ((HR8.o.below hb).asks (HLB.o W (HB5.o.trans ((HB8.o.trans (hb.mono HB8.o.size)).mono HB5.o.size))).g) hE.ok (by have:=hE.few;omega) (by omega) (by omega) HNOW.o (Zs3 hE.ok (by omega)))
 go_wp2_with fail;go_loopw [4,68] (fun pv iv wr=>∃(k wb' ct' cr':Nat) (E':List Ev),k<=m/\iv = .int .i64 k/\pv = .pointer (some ⟨wb',0,none⟩)/\Hid (WrAt wr wb' ct' cr' x.cfg E')/\Hid (WnE (200+12*k) E')/\Hid (ChainP fmtB p i now x.cfg.crowd x.cfg.span (some r) E' (lc.drop k) E2\/(lc.drop k = []/\E'=E2))/\Hid (Below w8.heap.size w8 wr)) (fun _ iv _=>m - (intOf iv).toNat)
 case atStart=>exact⟨0,wb,ct,cr,E,Nat.zero_le _,rfl,rfl,HW8,HNE,zh (Or.inl HCH.o),zh (Below.refl _ _)⟩
 case round=>
  obtain⟨k,wb',ct',cr',E',hk,rfl,rfl,HWR,HNR,HCR,HBR⟩:=hrel;have hm6:=HM.o.2;have HBR5:=zT HB8 HBR.o;have HBR6:=zT HB68 HBR.o;have HN3:Hid (WnE 300 E'):=zh ⟨HNR.o.closed,HNR.o.ok,by have:=HNR.o.few;omega⟩;by_cases hlt:k<m
  ·obtain⟨z,hz⟩:∃z,lc[k]? = some z:=⟨lc[k]'(by rw[HM.o.1];exact hlt),List.getElem?_eq_getElem _⟩
   have HDR:Hid (lc.drop k=z::lc.drop (k+1)):=zh (by
    have h:=List.getElem?_eq_some_iff.1 hz;rw[List.drop_eq_getElem_cons h.1,h.2])
   have HCZ:Hid (ChainP fmtB p i now x.cfg.crowd x.cfg.span (some r) E' (z::lc.drop (k+1)) E2):=zh (by
    rcases HCR.o with h|h
    ·rw[<-HDR.o];exact h
    ·rw[HDR.o]at h;cases h.1)
   have HHD:=zh (chain_head HCZ.o);obtain⟨u,hu⟩:∃u,us[k]? = some u:=⟨us[k]'(by rw[HROW.o.2.1,HM.o.1];exact hlt),List.getElem?_eq_getElem _⟩
   obtain⟨b,off,rfl,hb,hcl⟩:=HROW.o.1.at (by omega);obtain⟨hu1,A5,c5,hu2,he5,hnil5⟩:=HROW.o.2.2 k u z hu hz;obtain⟨u1,u2⟩:=u;dsimp only at hu1 hu2;subst hu2;obtain⟨z1,z2⟩:=z;dsimp only at hu1 he5 hu HHD HCZ HDR;subst hu1;obtain⟨k5,hk5⟩:=zG (z2.length);rw[hk5]at hu;have c0:World.cell? wr ⟨b,off+k*2,none⟩=some (.int .i64 (u1:Int)):=(HBR6.o.cell (p:=⟨b,off+k*2,none⟩) hb).trans (hcl (k*2) _ (Zbi chC 2 Zos us k 0 _ hu (by omega)));have c1:World.cell? wr ⟨b,off+k*2+1,none⟩=some (.slice A5 k5 c5):=(HBR6.o.cell (p:=⟨b,off+k*2+1,none⟩) hb).trans (hcl (k*2+1) _ (Zbi chC 2 Zos us k 1 _ hu (by omega)));have HE5:Hid (z2.length=k5/\EvsAt w6 w6.heap.size A5 z2/\(A5=none->c5=0)):=zh ⟨hk5,he5,hnil5⟩;have HK12:Hid (k5<=12):=zh (by rw[<-hk5,<-HHD.o.2.2];exact Zhg HFO.o.crowd);have HU1:Hid (1<=u1/\u1<=6):=zh (by have:=HCK.o.lo (u1,z2) (List.mem_of_getElem? hz);dsimp only at this;omega);have hk8:(k:Int)<(m:Int):=by omega
   have hk9:(0:Int)<=(k:Int):=by omega
   clear hcl hu he5 hnil5 hk5 hb hz
   go_upto_region 16 with (first
    | (refine Zad _ rfl 50 (.tmp 11) (.tmp 71) rfl 0 #[.int .i64 (u1:Int),.slice A5 k5 c5] rfl rfl (Blk.new _ _ _) (by show 0+2<=2;omega) Zjn (by simp[Value.oneCell']) ?_;intro w9 hb9 hk9 hs9)
    | fail)
   (try simp only[Exit.inBlock,Exit.then])
   simp only[putA,List.setIfInBounds_toArray,List.set_cons_zero,List.set_cons_succ]at hb9;have HBR9:Hid (Below wr.heap.size wr w9):=zh ((((Below.refl _ _).alloc (zr _) _).trans (hk9.toBelow (fun i hi=>by rw[hi];exact zr _) (by simp))));have HC9:Hid (Blk w9 wr.heap.size 50 #[.int .i64 (u1:Int),.slice A5 k5 c5]):=zh hb9;obtain⟨cb,hcb⟩:=zG (wr.heap.size);rw[hcb]at HC9;clear hb9 hk9 hs9 c0 c1;try rw[hcb]
   clear hcb;have HB9:=zT HBR HBR9.o;have HB95:=zT HBR5 HBR9.o;have HW9:=zh (HWR.o.below HBR9.o);obtain⟨a2,a3,a4⟩:=HPC.o w9 HB95.o;have HC:=zh (HOF.o w9 wb' ct' cr' E' HB9.o HW9.o HN3.o);rw[HHD.o.1]at HC;go_wp2_with fail;refine HC.o.mono ?_;rintro e wa ⟨rfl,hba⟩;have HBA9:Hid (Below w9.heap.size w9 wa):=zh hba;have HBA:=zT HB9 hba;have HBA5:=zT HB95 hba;have HBA6:=zT HB68 HBA.o;have HWA:=zh (HW9.o.below hba);have HCA:Hid (Blk wa cb 50 #[.int .i64 (u1:Int),.slice A5 k5 c5]):=zX HC9 hba;have HC2:=zh (Zch HWA.o (by have:=HN3.o.few;omega));clear hba HC a2 a3 a4 HC9 HW9 HB9 HB95;go_wp2_with fail;refine HC2.o.mono ?_;rintro e we ⟨A13,c13,rfl,ho13,hbe⟩;obtain⟨ne,hne⟩:=zG (E'.length);have HNL:Hid (E'.length=ne/\ne<=300):=zh ⟨hne,by have:=HN3.o.few;omega⟩;rw[hne]at ho13 ⊢;have HO13:=zh ho13;have HBE:Hid (Below wa.heap.size wa we):=zh hbe;have HZE:Hid (wa.heap.size<=we.heap.size):=zh hbe.size;have HBE5:=zT HBA5 hbe
   have HFA:Hid (∀W,Below wa.heap.size wa W->(World.cell? W ⟨cb,0,none⟩=some (.int .i64 (u1:Int))/\World.cell? W ⟨cb,1,none⟩=some (.slice A5 k5 c5))/\(World.cell? W ⟨sb,0,none⟩=some (.int .i64 x.cfg.half)/\World.cell? W ⟨sb,1,none⟩=some (.int .i64 x.cfg.width)/\World.cell? W ⟨sb,2,none⟩=some (.int .i64 x.cfg.gap)/\World.cell? W ⟨sb,3,none⟩=some (.int .i64 x.cfg.span)/\World.cell? W ⟨sb,4,none⟩=some (.int .i64 x.cfg.floor)/\World.cell? W ⟨sb,5,none⟩=some (.int .i64 x.cfg.crowd))/\(World.cell? W ⟨w.heap.size,2+17,none⟩=some (.string p)/\World.cell? W ⟨w.heap.size,3+17,none⟩=some (.string i)/\World.cell? W ⟨w.heap.size,4+17,none⟩=some (.int .i64 now))/\EvsAt W w6.heap.size A5 z2):=zh (fun W hb=>by
    have h:Blk W cb 50 #[.int .i64 (u1:Int),.slice A5 k5 c5]:=(hb.block _ HCA.o.lt).trans HCA.o;have h5:=HBA5.o.trans (hb.mono HBA5.o.size);exact⟨⟨h.cell 0,h.cell 1⟩,HCFC.o W h5,HPC.o W h5,HE5.o.2.1.below (HBA6.o.trans (hb.mono HBA6.o.size))⟩)
   have HZ6:Hid (w6.heap.size<=wa.heap.size):=zh HBA6.o.size
   have HREV:Hid (∀W,Below we.heap.size we W->Calls Tryz.prog 15 #[cfgA x.cfg,.slice A13 ne c13,.int .i64 (u1:Int),.string p,.string i,.int .i64 now] W (EvsR W z2)):=zh (fun W hb=>by
    rw[<-HHD.o.2.2];have hs:=HSZ.o;exact revents_any W we.heap.size A13 E' ne c13 HNL.o.1 (by unfold EvsAt;rw[HNL.o.1];exact (RowIn.of_own HO13.o).below hb) hb.size (by have:=HNL.o.2;omega) (Zks HO13.o).1 HN3.o.closed.sorted HN3.o.ok x.cfg ⟨HFO.o.cfg.crowd.1,HFO.o.crowd⟩ u1 HU1.o.2 p i now (by omega) (by omega))
   have d0:((u1:Int) == 0)=false:=by rw[beq_eq_false_iff_ne];have:=HU1.o;omega
   have dd:((u1:Int) != (u1:Int))=false:=by simp
   have hk12:=HK12.o;unfold cfgA at HREV;clear ho13 hbe HC2 hne;go_upto_region 18 with fail;go_cut [107] (fun v wx=>v = .bool false/\Hid (Below we.heap.size we wx))
   case first=>
    refine Zar (fun W=>Below we.heap.size we W) [(0,false),(1,false),(2,false),(3,false),(4,false),(5,false),(6,false),(7,false),(8,false),(9,false),(10,false),(11,false),(12,false),(13,false),(14,false),(15,false),(16,false),(17,false),(18,false),(19,false),(20,false),(21,true),(22,true),(23,false),(24,false)] (by kernel_rfl) (by kernel_rfl) (below_drew (Below.refl _ _)) ?_;simp only[planL,xq4,xq5];obtain⟨wd,hwd⟩:=zG (we.drew);have HBD:=zD hwd;rw[hwd];clear hwd
    repeat (first|(refine Zaf _ (by rfl) (fun W hW=>by (obtain⟨⟨x0,x1⟩,⟨s0,s1,s2,s3,s4,s5⟩,⟨a2,a3,a4⟩,_⟩:=HFA.o W (HBE.o.trans (hW.mono HZE.o));go_simp;try with_reducible rfl)) ?_;simp only[Act.put,xq1,xq2,xq3])|(refine Zac (by rfl) ?_;simp only[Act.put,xq1,xq2,xq3]))
    refine Zae ?_;have HC:=zh (HREV.o wd HBD.o);go_wp2_with fail;refine HC.o.mono ?_;rintro e wf ⟨A6,m6,c6,rfl,hm6',he6,hbf⟩;obtain rfl:m6=k5:=by rw[<-hm6',HE5.o.1]
    have HBF:=zT HBD hbf;have HSM:=zh (same_any wf wf.heap.size A5 A6 z2 m6 c5 c6 HE5.o.1 (RowIn.more (HFA.o wf (HBE.o.trans (HBF.o.mono HZE.o))).2.2.2 (by have:=HZ6.o;have:=HZE.o;have:=HBF.o.size;omega)) he6 (zr _) (by omega));clear HC hbf he6 hm6';go_wp2_with fail;refine⟨HBF.o,?_⟩
    repeat (first|(refine Zaf _ (by rfl) (fun W hW=>by (obtain⟨⟨x0,x1⟩,⟨s0,s1,s2,s3,s4,s5⟩,⟨a2,a3,a4⟩,_⟩:=HFA.o W (HBE.o.trans (hW.mono HZE.o));go_simp;try with_reducible rfl)) ?_;simp only[Act.put,xq1,xq2,xq3])|(refine Zac (by rfl) ?_;simp only[Act.put,xq1,xq2,xq3]))
    refine Zae ?_;go_wp2_with fail;refine HSM.o.mono ?_;rintro e wg ⟨rfl,hbg⟩;have HBG:=zT HBF hbg;clear hbg HSM;go_wp2_with fail;refine⟨HBG.o,?_⟩
    repeat (first|(refine Zaf _ (by rfl) (fun W hW=>by (obtain⟨⟨x0,x1⟩,⟨s0,s1,s2,s3,s4,s5⟩,⟨a2,a3,a4⟩,_⟩:=HFA.o W (HBE.o.trans (hW.mono HZE.o));go_simp;try with_reducible rfl)) ?_;simp only[Act.put,xq1,xq2,xq3])|(refine Zac (by rfl) ?_;simp only[Act.put,xq1,xq2,xq3]))
    refine Zah ?_;go_wp2_with fail;go_meet;exact⟨rfl,HBG⟩
   case rest=>
   obtain⟨rfl,HBG⟩:=hcut;obtain⟨wg,rfl⟩:=zH wc;have HBGA:Hid (Below wa.heap.size wa wg):=zh (HBE.o.trans (HBG.o.mono HZE.o));have HOG:=zh (Ru.Za9 HO13.o HBG.o)
   have HOK:Hid (∀e∈E'++z2,EvOk e):=zh (fun e he=>by
    rcases List.mem_append.1 he with h|h
    ·exact HN3.o.ok e h
    ·obtain⟨hp,hi,hn1,hn2⟩:=HTP.o;exact Zjj HN3.o.ok hp hi ⟨hn1,hn2⟩ (by have:=HN3.o.few;omega) e (by rw[HHD.o.2.2];exact h))
   clear d0 dd HREV;go_upto_region 20 with fail;refine Zar (fun W=>Below wa.heap.size wa W) [(0,false),(1,false),(2,false),(3,false),(4,false),(5,true),(6,true),(7,false),(8,false),(9,false),(10,false),(11,false)] (by kernel_rfl) (by kernel_rfl) (below_drew HBGA.o) ?_;simp only[planL,xq4,xq5];obtain⟨wq,hwq⟩:=zG (wg.drew);have HBQ:Hid (Below wa.heap.size wa wq):=zh (by rw[<-hwq];exact below_drew HBGA.o);have HWQ:Hid (wq=wg.drew):=zh hwq.symm;rw[hwq];clear hwq
   repeat (first|(refine Zaf _ (by rfl) (fun W hW=>by (obtain⟨⟨x0,x1⟩,⟨s0,s1,s2,s3,s4,s5⟩,⟨a2,a3,a4⟩,_⟩:=HFA.o W hW;go_simp;try with_reducible rfl)) ?_;simp only[Act.put,xq1,xq2,xq3])|(refine Zac (by rfl) ?_;simp only[Act.put,xq1,xq2,xq3]))
   refine Zae ?_;obtain⟨i1,hi1,hy1,hy2,hy3⟩:=info_parts Zdd;have HRE:=zh (HFA.o wq HBQ.o).2.2.2;have HOQ:Hid (wq.ownsRow wa.heap.size 66 8 (.slice A13 ne c13) ne (E'.flatMap evC)):=zh (by rw[HWQ.o];exact Ru.Za9 HOG.o (Below.refl _ _).drew);refine Zaa _ rfl _ _ 22 rfl wa.heap.size 66 i1 _ 8 96 Tryz.underlying22 hi1 hy1 hy2 hy3 rfl (by omega) (.slice A13 ne c13) ne _ rfl HOQ.o w6.heap.size A5 k5 c5 (z2.flatMap evC) rfl (by have h:=HRE.o;unfold EvsAt at h;rw[HE5.o.1]at h;exact h) HE5.o.2.2 (Zb1 z2) (by have:=HNL.o;have:=HK12.o;unfold maxLen;omega) (by have:=HNL.o;have:=HK12.o;omega) (by have:=HZ6.o;have:=HBQ.o.size;omega) ?_;intro v12 w12 ho12 hg12 hv12;obtain⟨A12,c12,rfl⟩:=Zbh ho12;rw[<-List.flatMap_append]at ho12;have HB12:Hid (Below wa.heap.size wa w12):=zh (HBQ.o.grown hg12 HBQ.o.size (fun j hj=>(Zd1 HOQ.o hj).1));have hlb:=HLB.o w12 (HB5.o.trans ((HBA5.o.trans (HB12.o.mono HBA5.o.size)).mono HB5.o.size));have HC:=zh (wof_any x.cfg w12 w12.heap.size A12 (E'++z2) (ne+k5) c12 HFO.o.cfg (by rw[List.length_append,HNL.o.1,HE5.o.1]) (by unfold EvsAt;rw[List.length_append,HNL.o.1,HE5.o.1];exact RowIn.of_own ho12) (zr _) (by have:=HNL.o;have:=HK12.o;omega) HOK.o hlb.g hlb.k hlb.t);unfold cfgA at HC;clear ho12 hg12 hv12 hi1 hy1 hy2 hy3 HRE HOQ hlb;go_wp2_with fail;refine⟨HB12.o,?_⟩
   repeat (first|(refine Zaf _ (by rfl) (fun W hW=>by (obtain⟨⟨x0,x1⟩,⟨s0,s1,s2,s3,s4,s5⟩,⟨a2,a3,a4⟩,_⟩:=HFA.o W hW;go_simp;try with_reducible rfl)) ?_;simp only[Act.put,xq1,xq2,xq3])|(refine Zac (by rfl) ?_;simp only[Act.put,xq1,xq2,xq3]))
   refine Zae ?_;go_wp2_with fail;refine HC.o.mono ?_;rintro e w13 ⟨wb2,base2,E3,rfl,han,hwa,hbs,hb13⟩;obtain⟨ct2,cr2,hw13⟩:=hwa.read;have HW13:=zh hw13;have HAN:=zh han;have HB13:=zT HB12 hb13;clear hwa han hbs hb13 HC hw13;go_wp2_with fail;refine⟨HB13.o,?_⟩
   repeat (first|(refine Zaf _ (by rfl) (fun W hW=>by (obtain⟨⟨x0,x1⟩,⟨s0,s1,s2,s3,s4,s5⟩,⟨a2,a3,a4⟩,_⟩:=HFA.o W hW;go_simp;try with_reducible rfl)) ?_;simp only[Act.put,xq1,xq2,xq3])|(refine Zac (by rfl) ?_;simp only[Act.put,xq1,xq2,xq3]))
   refine Zah ?_;go_wp2_with fail;go_roundw
   case rel=>
    refine⟨k+1,wb2,ct2,cr2,E3,by omega,by go_num,rfl,HW13,zh ?_,zh (chain_next HCZ.o HNR.o.closed HAN.o),zh (HBA.o.trans (HB13.o.mono HBA.o.size))⟩;obtain⟨hp,hi,hn1,hn2⟩:=HTP.o;have hst:=HNR.o.step (fm:=fmtB) (y:=u1) (p:=p) (i:=i) (now:=now) (crowd:=x.cfg.crowd) hp hi ⟨hn1,hn2⟩ HFO.o.crowd (by omega) (by rw[HHD.o.2.2];exact HAN.o);exact⟨hst.closed,hst.ok,by have:=hst.few;omega⟩
   case measure=>simp[intOf];omega
  ·obtain rfl:k=m:=by omega
   have hkk2:¬(k:Int)<(k:Int):=by omega
   have HDK:Hid (E'=E2):=zh (by
    have h:=HCR.o;rw[List.drop_eq_nil_of_le (by rw[HM.o.1];exact zr _)]at h;exact chain_end h)
   obtain⟨a2,a3,a4⟩:=HPC.o wr HBR5.o;have HC:=zh (HOF.o wr wb' ct' cr' E' HBR.o HWR.o HN3.o);rw[HDK.o]at HC;obtain⟨yl,hyl⟩:=zG (whyW E2 p i now x.cfg.crowd x.cfg.span (some r));rw[hyl]at HC HCL;clear hlt hyl;go_wp2_with fail;refine HC.o.mono ?_;rintro e wa ⟨rfl,hba⟩;have HBA5:=zT HBR5 hba;have HBA6:=zT HBR6 hba;clear hba HC a2 a3 a4;go_upto_region 26 with fail;go_cut [17] (fun v wx=>wx=wa/\((yl=0/\v = .bool false)\/(yl≠0/\v = .bool true)))
   case first=>
    by_cases hk0:k=0
    ·have HY0:Hid (yl=0):=zh (HCL.o.2 (by rintro ⟨j,z,h1,_,_⟩;rw[HM.o.1]at h1;omega));have dk:decide ((0:Int)<(k:Int))=false:=decide_eq_false (by omega);have nk:¬(0:Int)<(k:Int):=by omega
     have dk2:decide (0<k)=false:=decide_eq_false (by omega);clear hk0;go_wp2_with fail;go_meet;exact⟨rfl,Or.inl ⟨HY0.o,rfl⟩⟩
    ·obtain⟨j,hj⟩:∃j,k=j+1:=⟨k - 1,by omega⟩
     obtain⟨z,hz⟩:∃z,lc[j]? = some z:=⟨lc[j]'(by rw[HM.o.1];omega),List.getElem?_eq_getElem _⟩
     obtain⟨u,hu⟩:∃u,us[j]? = some u:=⟨us[j]'(by rw[HROW.o.2.1,HM.o.1];omega),List.getElem?_eq_getElem _⟩
     obtain⟨b,off,rfl,hb,hcl⟩:=HROW.o.1.at (by omega);obtain⟨hu1,A5,c5,hu2,he5,hnil5⟩:=HROW.o.2.2 j u z hu hz;obtain⟨u1,u2⟩:=u;dsimp only at hu1 hu2;subst hu2;obtain⟨k5,hk5⟩:=zG (z.2.length);rw[hk5]at hu;have c1:World.cell? wa ⟨b,off+j*2+1,none⟩=some (.slice A5 k5 c5):=(HBA6.o.cell (p:=⟨b,off+j*2+1,none⟩) hb).trans (hcl (j*2+1) _ (Zbi chC 2 Zos us j 1 _ hu (by omega)))
     have HYL:Hid (yl=0↔k5≠0):=zh (by
      rw[HCL.o]
      constructor
      ·intro h e;exact h ⟨j,z,by rw[HM.o.1];exact hj,hz,List.length_eq_zero_iff.1 (by rw[hk5,e])⟩
      ·rintro h ⟨j',z',h1,h2,h3⟩;rw[HM.o.1]at h1;obtain rfl:j'=j:=by omega
       rw[hz]at h2;cases h2;rw[h3]at hk5;exact h hk5.symm)
     have dk:decide ((0:Int)<(k:Int))=true:=decide_eq_true (by omega);have nk:(0:Int)<(k:Int):=by omega
     have dk2:decide (0<k)=true:=decide_eq_true (by omega);have hkj:IntKind.i64.wrap ((k:Int) - 1)=(j:Int):=by rw[show (k:Int) - 1=(j:Int) by omega];exact IntWalk.i64_in _ (by omega)
     have hkj2:(k:Int) - 1=(j:Int):=by omega
     have hkj3:IntKind.i64.wrap (j:Int)=(j:Int):=IntWalk.i64_in _ (by omega);have hj8:(j:Int)<(k:Int):=by omega
     have hj9:(0:Int)<=(j:Int):=by omega
     clear hu hz hb hcl he5 hnil5 hk5 hj hk0 hu1;by_cases h5:k5=0
     ·have d5:((k5:Int) == 0)=true:=by rw[beq_iff_eq];omega
      have HY1:Hid (yl≠0):=zh (fun e=>(HYL.o.1 e) h5);clear h5;go_wp2_with fail;go_meet;exact⟨rfl,Or.inr ⟨HY1.o,rfl⟩⟩
     ·have d5:((k5:Int) == 0)=false:=by rw[beq_eq_false_iff_ne];omega
      have HY1:Hid (yl=0):=zh (HYL.o.2 h5);clear h5;go_wp2_with fail;go_meet;exact⟨rfl,Or.inl ⟨HY1.o,rfl⟩⟩
   case rest=>
   obtain⟨rfl,hor⟩:=hcut;obtain⟨wt,rfl⟩:=zH wc;rcases hor with ⟨h0,rfl⟩|⟨h0,rfl⟩
   ·have d0:((yl:Int) == 0)=true:=by rw[beq_iff_eq];omega
    clear h0;have HC:=zh (HAW.o wt HBA5.o);go_wp2_with fail;refine HC.o.mono ?_;rintro e wz ⟨rfl,hbz⟩;have HBZ:Hid (Below w.heap.size w wz):=zh (HB5.o.trans ((HBA5.o.trans (hbz.mono HBA5.o.size)).mono HB5.o.size));clear hbz HC;go_wp2_with fail;go_ret;exact⟨rfl,HBZ.o⟩
   ·have d0:((yl:Int) == 0)=false:=by rw[beq_eq_false_iff_ne];omega
    clear h0;have HC:=zh (HAW.o wt HBA5.o);go_wp2_with fail;refine HC.o.mono ?_;rintro e wz ⟨rfl,hbz⟩;have HBZ:Hid (Below w.heap.size w wz):=zh (HB5.o.trans ((HBA5.o.trans (hbz.mono HBA5.o.size)).mono HB5.o.size));clear hbz HC;go_wp2_with fail;go_ret;exact⟨rfl,HBZ.o⟩
end Go.Proofs.YtphmhbcimhlcjaaGreatDoor
