/- A part of the joined base. -/
import Derived.Test.YthdmpcnnbminlaaGreatDoorV06
import Derived.IntWalk
set_option linter.unusedVariables false
set_option maxHeartbeats 8000000
set_option maxRecDepth 100000
namespace Go.Proofs.YthdmpcnnbminlaaGreatDoor
open Go.Shelf Go.RowKit Go.Maps
theorem Zo4 (w:World) (cb:Nat) (b:Bs) (half:Int) (N:Nat) (last:Ev) (rs:List Rw) (x:Ev) (ts:List ByteArray) (hblk:Blk w cb 140 (crCells half N last b)) (hm:MapsIn w b rs) (hnd:b.l.Nodup) (hx:EvSh x) (hr:rs.length≤1000000) :
  Calls Tryz.prog 183 #[.pointer (some ⟨cb,0,none⟩),evA x] w fun e w'=>e = .returned (.tuple #[])∧MapsIn w' b (rs++[⟨x,ts⟩])∧Kept (NB b) w w':=by
 have HM:=zh hm
 have HBK:=zh hblk
 have HND:=zh hnd
 have hpm:x.person.size≤maxLen:=by have:=hx.2.1;unfold maxLen;omega
 have him:x.item.size≤maxLen:=by have:=hx.2.2.1;unfold maxLen;omega
 have htm:x.text.size≤maxLen:=by have:=hx.2.2.2;unfold maxLen;omega
 obtain⟨w1,hw1⟩:∃w1,w.alloc (.cells (evArr x) 31)=w1:=⟨_,rfl⟩
 have be1:Hid (Blk w1 w.heap.size 31 (evArr x)):=zh (by rw[←hw1];exact Blk.new _ _ _)
 have HB1:Hid (Below w.heap.size w w1):=zh (by rw[←hw1];exact (Below.refl _ _).alloc (zr _) _)
 have d4:w1.cell? ⟨w.heap.size,4,none⟩=some (.string x.person):=be1.o.cell 4
 have d5:w1.cell? ⟨w.heap.size,5,none⟩=some (.string x.item):=be1.o.cell 5
 have d7:w1.cell? ⟨w.heap.size,7,none⟩=some (.string x.text):=be1.o.cell 7
 clear hm hblk hnd hx
 unfold evA
 unfold evArr at hw1
 go_enter Tryz.func183,Tryz.ntmps183
 go_upto_region 1 with fail
 clear hw1
 go_cut [4,5] (fun v4 v5 wx=>Hid (Lk2 w1 x v4 v5 wx))
 case first=>
  have hn4:=World.new_ne w1 ⟨w.heap.size,4,none⟩ d4
  have hn5:=World.new_ne w1 ⟨w.heap.size,5,none⟩ d5
  have hn7:=World.new_ne w1 ⟨w.heap.size,7,none⟩ d7
  go_region_held3 (fun W=>World.cell? W ⟨w.heap.size,4,none⟩=some (.string x.person)∧World.cell? W ⟨w.heap.size,5,none⟩=some (.string x.item)∧World.cell? W ⟨w.heap.size,7,none⟩=some (.string x.text)) (go_keep) (fail)
  ·go_wp2_with fail
   go_meet
   exact zh (lk_1 w1 x)
  ·go_wp2_with fail
   go_meet
   exact zh (lk_2 w1 x)
 case rest=>
 obtain⟨b4,b5,rfl,rfl,hb4,hb5,hl4,hl5,hbw⟩:=hcut.o
 obtain⟨w2,rfl⟩:∃w2:World,w2=wc:=⟨_,rfl⟩
 have Hb4:=zh hb4
 have Hb5:=zh hb5
 have HB2:Hid (Below w.heap.size w w2):=zh (HB1.o.trans (hbw.mono HB1.o.size))
 have HE2:Hid (Blk w2 w.heap.size 31 (evArr x)):=zh ((hbw.block _ be1.o.lt).trans be1.o)
 have HM2:Hid (MapsIn w2 b rs):=zh (HM.o.kept (below_kept (S:=fun _=>False) HB2.o (zr _)) (fun _ _ h=>h))
 have HBK2:Hid (Blk w2 cb 140 (crCells half N last b)):=zh (HBK.o.kept (below_kept (S:=fun _=>False) HB2.o (zr _)) (fun h=>h))
 have HL45:Hid (w.heap.size≤b4∧w.heap.size≤b5):=zh ⟨Nat.le_trans HB1.o.size hl4,Nat.le_trans HB1.o.size hl5⟩
 clear hcut hb4 hb5 hl4 hl5 hbw d4 d5 d7 be1 HB1 HBK
 have d3:w2.cell? ⟨w.heap.size,3,none⟩=some (.int .i64 x.kind):=HE2.o.cell 3
 go_upto_block 0 with fail
 go_cut [] (fun wx=>Hid (MapsMid wx b (rs++[⟨x,ts⟩]) rs)∧Hid (Kept (NB b) w2 wx))
 case first=>
  by_cases hk0:x.kind=0
  ·have hk:x.kind=0:=hk0
   have z0:(x.kind == 0)=true:=by rw[hk];rfl
   have c12:w2.cell? ⟨cb,12,none⟩=some (.map (some b.sb)):=HBK2.o.cell 12
   have k0:w2.cell? ⟨b4,0,none⟩=some (.string x.person):=Hb4.o.cell 0
   have k1:w2.cell? ⟨b4,1,none⟩=some (.string x.item):=Hb4.o.cell 1
   obtain⟨M,hM,hf⟩:=HM2.o.shown
   obtain⟨sq,hsq⟩:∃sq,shownN rs x.person x.item=sq:=⟨_,rfl⟩
   have hgx:=hf x.person x.item hpm him
   have hq:(M (lit2 x.person x.item)).getD (.int .i64 0) = .int .i64 sq:=by rw[hgx,Zo0,hsq]
   have hle:=Zmk rs x.person x.item
   rw[hsq]at hle
   have hent:=hM.drew.entry lnkLaw Tryz.underlying137 (z:=.int .i64 0) zeroInt rfl (by unfold maxLen;omega) (Zav x.person x.item hpm him) (val:=.int .i64 ((sq:Int)+1)) rfl
   have hlook:=hM.drew.look lnkKeyed Tryz.underlying137 (zeroInt _) rfl (Zav x.person x.item hpm him)
   rw[hq]at hent hlook
   obtain⟨st,w9,w8,hE,hL9,hS9,hm8,hg8,hs8,hg9,hs9⟩:=hent
   have HK8:Hid (Kept (fun q=>q=b.sb) w2 w8):=zh ((Kept.refl _ _).drew.grown hg8 (fun j hj=>by cases hj;exact Or.inl rfl))
   have hI:Is2 okInt w8 b.sb (rs.length+1) (upd2 (cntF (shownN rs)) x.person x.item (.int .i64 ((shownN rs x.person x.item:Int)+1))):=⟨_,hm8,by rw[hsq];exact Zb3 hf hpm him _⟩
   have HR8:Hid (MapsMid w8 b (rs++[⟨x,ts⟩]) rs∧Kept (NB b) w2 w8):=zh (Zto HM2.o HND.o HK8.o x ts hk hI)
   simp only[goInt]at hE hS9
   have hk9:Kept (fun q=>q=b.sb) w2 w9:=(Kept.refl _ _).drew.grown hg9 (fun j hj=>by cases hj;exact Or.inl rfl)
   have HS2:Hid (World.cell? w2.drew ⟨cb,12,none⟩=some (.map (some b.sb))∧World.cell? w2.drew ⟨b4,0,none⟩=some (.string x.person)∧World.cell? w2.drew ⟨b4,1,none⟩=some (.string x.item)∧(Instr.lookup 137 (.map (some b.sb)) (.agg #[.string x.person,.string x.item]) false).run Tryz.prog w2.drew = .ok (.int .i64 sq) w2.drew):=zh ⟨c12,k0,k1,hlook⟩
   have HS9:Hid (World.cell? w9 ⟨cb,12,none⟩=some (.map (some b.sb))∧World.cell? w9 ⟨b4,0,none⟩=some (.string x.person)∧World.cell? w9 ⟨b4,1,none⟩=some (.string x.item)∧(Instr.lookup 137 (.map (some b.sb)) (.agg #[.string x.person,.string x.item]) false).run Tryz.prog w9 = .ok (.int .i64 sq) w9):=zh ⟨(hk9.cell (p:=⟨cb,12,none⟩) HBK2.o.lt (fun h=>HM2.o.shown.ne_blk HBK2.o h.symm)).trans c12,(hk9.cell (p:=⟨b4,0,none⟩) Hb4.o.lt (fun h=>HM2.o.shown.ne_blk Hb4.o h.symm)).trans k0,(hk9.cell (p:=⟨b4,1,none⟩) Hb4.o.lt (fun h=>HM2.o.shown.ne_blk Hb4.o h.symm)).trans k1,hL9⟩
   have hwq:IntKind.i64.wrap ((sq:Int)+1)=(sq:Int)+1:=IntWalk.i64_in _ (by omega)
   clear hI hsq hm8 hg8 hs8 hg9 hs9 hM hf hgx hq hk hk0 hk9 c12 k0 k1 hlook hL9
   go_wp2_with fail
   refine Zaq (fun W=>World.cell? W ⟨cb,12,none⟩=some (.map (some b.sb))∧World.cell? W ⟨b4,0,none⟩=some (.string x.person)∧World.cell? W ⟨b4,1,none⟩=some (.string x.item)∧(Instr.lookup 137 (.map (some b.sb)) (.agg #[.string x.person,.string x.item]) false).run Tryz.prog W = .ok (.int .i64 sq) W) [(0,1),(1,1),(2,1),(3,1),(4,1),(5,1),(6,1),(7,2),(8,1),(9,3)] (by kernel_rfl) (by kernel_rfl) HS2.o ?_
   simp only[planNL,List.getElem?_cons_zero,List.getElem?_cons_succ]
   repeat (first|(refine Zan _ (by rfl) (fun W hW=>by (obtain⟨x0,x1,x2,x3⟩:=hW;go_simp;try with_reducible rfl)) ?_;simp only[Act.put,xq1,xq2,xq3])|(refine planN_off (by rfl) ?_;simp only[Act.put,xq1,xq2,xq3])|(refine planN_on0 _ (by rfl) (fun W hW=>by (go_simp;try with_reducible rfl)) ?_;simp only[Act.put,xq1,xq2,xq3]))
   refine Za4 ?_
   go_wp2_with fail
   refine⟨HS9.o,?_⟩
   repeat (first|(refine Zan _ (by rfl) (fun W hW=>by (obtain⟨x0,x1,x2,x3⟩:=hW;go_simp;try with_reducible rfl)) ?_;simp only[Act.put,xq1,xq2,xq3])|(refine planN_off (by rfl) ?_;simp only[Act.put,xq1,xq2,xq3])|(refine planN_on0 _ (by rfl) (fun W hW=>by (go_simp;try with_reducible rfl)) ?_;simp only[Act.put,xq1,xq2,xq3]))
   refine Zai ?_
   go_wp2_with fail
   refine Zaj ?_
   go_wp2_with fail
   go_meet
   exact⟨zh HR8.o.1,zh HR8.o.2⟩
  have z0:(x.kind == 0)=false:=by rw[Bool.eq_false_iff];intro e;exact hk0 (beq_iff_eq.1 e)
  by_cases hk2:x.kind=2
  ·have hk:x.kind=2:=hk2
   have z2:(x.kind == 2)=true:=by rw[hk];rfl
   clear hk2
   have c11:w2.cell? ⟨cb,11,none⟩=some (.map (some b.db)):=HBK2.o.cell 11
   have k0:w2.cell? ⟨b4,0,none⟩=some (.string x.person):=Hb4.o.cell 0
   have k1:w2.cell? ⟨b4,1,none⟩=some (.string x.item):=Hb4.o.cell 1
   obtain⟨M,hM,hf⟩:=HM2.o.done
   have HMM:=zh hM
   have HFF:=zh hf
   clear hM hf
   go_wp2_with fail
   refine Zaq (fun W=>W=w2.drew) [(0,1),(1,1),(2,1),(3,1),(4,1),(5,3)] (by kernel_rfl) (by kernel_rfl) rfl ?_
   simp only[planNL,List.getElem?_cons_zero,List.getElem?_cons_succ]
   repeat (first|(refine Zan _ (by rfl) (fun W hW=>by (subst hW;go_simp;try with_reducible rfl)) ?_;simp only[Act.put,xq1,xq2,xq3])|(refine planN_off (by rfl) ?_;simp only[Act.put,xq1,xq2,xq3])|(refine planN_on0 _ (by rfl) (fun W hW=>by (go_simp;try with_reducible rfl)) ?_;simp only[Act.put,xq1,xq2,xq3]))
   refine Zai ?_
   go_wp2_with (first
    | (at_mapUpdate;refine Zag _ rfl _ _ _ 136 rfl 142 4 lnkKeyed Tryz.underlying136 okBool b.db rs.length M rfl HMM.o.drew (by unfold maxLen;omega) _ (.bool true) _ rfl rfl (Zav _ _ hpm him) rfl ?_;intro w8 hm8 hg8 hs8))
   have HK8:Hid (Kept (fun q=>q=b.db) w2 w8):=zh ((Kept.refl _ _).drew.grown hg8 (fun j hj=>by cases hj;exact Or.inl rfl))
   have HR8:Hid (MapsMid w8 b (rs++[⟨x,ts⟩]) rs∧Kept (NB b) w2 w8):=zh (Zrc HM2.o HND.o HK8.o x ts (by simp[hk]) ⟨_,hm8,Zb3 HFF.o hpm him _⟩)
   clear hm8 hg8 hs8 hk
   refine Zaj ?_
   go_wp2_with fail
   go_meet
   exact⟨zh HR8.o.1,zh HR8.o.2⟩
  have z2:(x.kind == 2)=false:=by rw[Bool.eq_false_iff];intro e;exact hk2 (beq_iff_eq.1 e)
  by_cases hk3:x.kind=3
  ·have hk:x.kind=3:=hk3
   have z3:(x.kind == 3)=true:=by rw[hk];rfl
   clear hk3
   have c11:w2.cell? ⟨cb,11,none⟩=some (.map (some b.db)):=HBK2.o.cell 11
   have k0:w2.cell? ⟨b4,0,none⟩=some (.string x.person):=Hb4.o.cell 0
   have k1:w2.cell? ⟨b4,1,none⟩=some (.string x.item):=Hb4.o.cell 1
   obtain⟨M,hM,hf⟩:=HM2.o.done
   have HMM:=zh hM
   have HFF:=zh hf
   clear hM hf
   go_wp2_with fail
   refine Zaq (fun W=>W=w2.drew) [(0,1),(1,1),(2,1),(3,1),(4,1),(5,3)] (by kernel_rfl) (by kernel_rfl) rfl ?_
   simp only[planNL,List.getElem?_cons_zero,List.getElem?_cons_succ]
   repeat (first|(refine Zan _ (by rfl) (fun W hW=>by (subst hW;go_simp;try with_reducible rfl)) ?_;simp only[Act.put,xq1,xq2,xq3])|(refine planN_off (by rfl) ?_;simp only[Act.put,xq1,xq2,xq3])|(refine planN_on0 _ (by rfl) (fun W hW=>by (go_simp;try with_reducible rfl)) ?_;simp only[Act.put,xq1,xq2,xq3]))
   refine Zai ?_
   go_wp2_with (first
    | (at_mapUpdate;refine Zag _ rfl _ _ _ 136 rfl 142 4 lnkKeyed Tryz.underlying136 okBool b.db rs.length M rfl HMM.o.drew (by unfold maxLen;omega) _ (.bool true) _ rfl rfl (Zav _ _ hpm him) rfl ?_;intro w8 hm8 hg8 hs8))
   have HK8:Hid (Kept (fun q=>q=b.db) w2 w8):=zh ((Kept.refl _ _).drew.grown hg8 (fun j hj=>by cases hj;exact Or.inl rfl))
   have HR8:Hid (MapsMid w8 b (rs++[⟨x,ts⟩]) rs∧Kept (NB b) w2 w8):=zh (Zrc HM2.o HND.o HK8.o x ts (by simp[hk]) ⟨_,hm8,Zb3 HFF.o hpm him _⟩)
   clear hm8 hg8 hs8 hk
   refine Zaj ?_
   go_wp2_with fail
   go_meet
   exact⟨zh HR8.o.1,zh HR8.o.2⟩
  have z3:(x.kind == 3)=false:=by rw[Bool.eq_false_iff];intro e;exact hk3 (beq_iff_eq.1 e)
  by_cases hk5:x.kind=5
  ·have hk:x.kind=5:=hk5
   have z5:(x.kind == 5)=true:=by rw[hk];rfl
   clear hk5
   have c13:w2.cell? ⟨cb,13,none⟩=some (.map (some b.hb)):=HBK2.o.cell 13
   have k0:w2.cell? ⟨b4,0,none⟩=some (.string x.person):=Hb4.o.cell 0
   have k1:w2.cell? ⟨b4,1,none⟩=some (.string x.item):=Hb4.o.cell 1
   obtain⟨M,hM,hf⟩:=HM2.o.hid
   have HMM:=zh hM
   have HFF:=zh hf
   clear hM hf
   go_wp2_with fail
   refine Zaq (fun W=>W=w2.drew) [(0,1),(1,1),(2,1),(3,1),(4,1),(5,1),(6,1),(7,1),(8,3)] (by kernel_rfl) (by kernel_rfl) rfl ?_
   simp only[planNL,List.getElem?_cons_zero,List.getElem?_cons_succ]
   repeat (first|(refine Zan _ (by rfl) (fun W hW=>by (subst hW;go_simp;try with_reducible rfl)) ?_;simp only[Act.put,xq1,xq2,xq3])|(refine planN_off (by rfl) ?_;simp only[Act.put,xq1,xq2,xq3])|(refine planN_on0 _ (by rfl) (fun W hW=>by (go_simp;try with_reducible rfl)) ?_;simp only[Act.put,xq1,xq2,xq3]))
   refine Zai ?_
   go_wp2_with (first
    | (at_mapUpdate;refine Zag _ rfl _ _ _ 136 rfl 142 4 lnkKeyed Tryz.underlying136 okBool b.hb rs.length M rfl HMM.o.drew (by unfold maxLen;omega) _ (.bool true) _ rfl rfl (Zav _ _ hpm him) rfl ?_;intro w8 hm8 hg8 hs8))
   have HK8:Hid (Kept (fun q=>q=b.hb) w2 w8):=zh ((Kept.refl _ _).drew.grown hg8 (fun j hj=>by cases hj;exact Or.inl rfl))
   have HR8:Hid (MapsMid w8 b (rs++[⟨x,ts⟩]) rs∧Kept (NB b) w2 w8):=zh (Zrd HM2.o HND.o HK8.o x ts (by simp[hk]) ((show Is2 okBool w8 b.hb _ _ from ⟨_,hm8,Zb3 HFF.o hpm him _⟩).congr (fun a b=>by simp[hk])))
   clear hm8 hg8 hs8 hk
   refine Zaj ?_
   go_wp2_with fail
   go_meet
   exact⟨zh HR8.o.1,zh HR8.o.2⟩
  have z5:(x.kind == 5)=false:=by rw[Bool.eq_false_iff];intro e;exact hk5 (beq_iff_eq.1 e)
  by_cases hk6:x.kind=6
  ·have hk:x.kind=6:=hk6
   have z6:(x.kind == 6)=true:=by rw[hk];rfl
   clear hk6
   have c13:w2.cell? ⟨cb,13,none⟩=some (.map (some b.hb)):=HBK2.o.cell 13
   have k0:w2.cell? ⟨b4,0,none⟩=some (.string x.person):=Hb4.o.cell 0
   have k1:w2.cell? ⟨b4,1,none⟩=some (.string x.item):=Hb4.o.cell 1
   obtain⟨M,hM,hf⟩:=HM2.o.hid
   have HMM:=zh hM
   have HFF:=zh hf
   clear hM hf
   go_wp2_with fail
   refine Zaq (fun W=>W=w2.drew) [(0,1),(1,1),(2,1),(3,1),(4,1),(5,1),(6,1),(7,1),(8,3)] (by kernel_rfl) (by kernel_rfl) rfl ?_
   simp only[planNL,List.getElem?_cons_zero,List.getElem?_cons_succ]
   repeat (first|(refine Zan _ (by rfl) (fun W hW=>by (subst hW;go_simp;try with_reducible rfl)) ?_;simp only[Act.put,xq1,xq2,xq3])|(refine planN_off (by rfl) ?_;simp only[Act.put,xq1,xq2,xq3])|(refine planN_on0 _ (by rfl) (fun W hW=>by (go_simp;try with_reducible rfl)) ?_;simp only[Act.put,xq1,xq2,xq3]))
   refine Zai ?_
   go_wp2_with (first
    | (at_mapUpdate;refine Zag _ rfl _ _ _ 136 rfl 142 4 lnkKeyed Tryz.underlying136 okBool b.hb rs.length M rfl HMM.o.drew (by unfold maxLen;omega) _ (.bool false) _ rfl rfl (Zav _ _ hpm him) rfl ?_;intro w8 hm8 hg8 hs8))
   have HK8:Hid (Kept (fun q=>q=b.hb) w2 w8):=zh ((Kept.refl _ _).drew.grown hg8 (fun j hj=>by cases hj;exact Or.inl rfl))
   have HR8:Hid (MapsMid w8 b (rs++[⟨x,ts⟩]) rs∧Kept (NB b) w2 w8):=zh (Zrd HM2.o HND.o HK8.o x ts (by simp[hk]) ((show Is2 okBool w8 b.hb _ _ from ⟨_,hm8,Zb3 HFF.o hpm him _⟩).congr (fun a b=>by simp[hk])))
   clear hm8 hg8 hs8 hk
   refine Zaj ?_
   go_wp2_with fail
   go_meet
   exact⟨zh HR8.o.1,zh HR8.o.2⟩
  have z6:(x.kind == 6)=false:=by rw[Bool.eq_false_iff];intro e;exact hk6 (beq_iff_eq.1 e)
  by_cases hk7:x.kind=7
  ·have hk:x.kind=7:=hk7
   have z7:(x.kind == 7)=true:=by rw[hk];rfl
   clear hk7
   have c14:w2.cell? ⟨cb,14,none⟩=some (.map (some b.fb)):=HBK2.o.cell 14
   have k0:w2.cell? ⟨b5,0,none⟩=some (.string x.person):=Hb5.o.cell 0
   have k1:w2.cell? ⟨b5,1,none⟩=some (.string x.text):=Hb5.o.cell 1
   obtain⟨M,hM,hf⟩:=HM2.o.fol
   have HMM:=zh hM
   have HFF:=zh hf
   clear hM hf
   go_wp2_with fail
   refine Zaq (fun W=>W=w2.drew) [(0,1),(1,1),(2,1),(3,1),(4,1),(5,1),(6,1),(7,1),(8,3)] (by kernel_rfl) (by kernel_rfl) rfl ?_
   simp only[planNL,List.getElem?_cons_zero,List.getElem?_cons_succ]
   repeat (first|(refine Zan _ (by rfl) (fun W hW=>by (subst hW;go_simp;try with_reducible rfl)) ?_;simp only[Act.put,xq1,xq2,xq3])|(refine planN_off (by rfl) ?_;simp only[Act.put,xq1,xq2,xq3])|(refine planN_on0 _ (by rfl) (fun W hW=>by (go_simp;try with_reducible rfl)) ?_;simp only[Act.put,xq1,xq2,xq3]))
   refine Zai ?_
   go_wp2_with (first
    | (at_mapUpdate;refine Zag _ rfl _ _ _ 136 rfl 142 4 lnkKeyed Tryz.underlying136 okBool b.fb rs.length M rfl HMM.o.drew (by unfold maxLen;omega) _ (.bool true) _ rfl rfl (Zav _ _ hpm htm) rfl ?_;intro w8 hm8 hg8 hs8))
   have HK8:Hid (Kept (fun q=>q=b.fb) w2 w8):=zh ((Kept.refl _ _).drew.grown hg8 (fun j hj=>by cases hj;exact Or.inl rfl))
   have HR8:Hid (MapsMid w8 b (rs++[⟨x,ts⟩]) rs∧Kept (NB b) w2 w8):=zh (Zre HM2.o HND.o HK8.o x ts (by simp[hk]) ((show Is2 okBool w8 b.fb _ _ from ⟨_,hm8,Zb3 HFF.o hpm htm _⟩).congr (fun a b=>by simp[hk])))
   clear hm8 hg8 hs8 hk
   refine Zaj ?_
   go_wp2_with fail
   go_meet
   exact⟨zh HR8.o.1,zh HR8.o.2⟩
  have z7:(x.kind == 7)=false:=by rw[Bool.eq_false_iff];intro e;exact hk7 (beq_iff_eq.1 e)
  by_cases hk8:x.kind=8
  ·have hk:x.kind=8:=hk8
   have z8:(x.kind == 8)=true:=by rw[hk];rfl
   clear hk8
   have c14:w2.cell? ⟨cb,14,none⟩=some (.map (some b.fb)):=HBK2.o.cell 14
   have k0:w2.cell? ⟨b5,0,none⟩=some (.string x.person):=Hb5.o.cell 0
   have k1:w2.cell? ⟨b5,1,none⟩=some (.string x.text):=Hb5.o.cell 1
   obtain⟨M,hM,hf⟩:=HM2.o.fol
   have HMM:=zh hM
   have HFF:=zh hf
   clear hM hf
   go_wp2_with fail
   refine Zaq (fun W=>W=w2.drew) [(0,1),(1,1),(2,1),(3,1),(4,1),(5,1),(6,1),(7,1),(8,3)] (by kernel_rfl) (by kernel_rfl) rfl ?_
   simp only[planNL,List.getElem?_cons_zero,List.getElem?_cons_succ]
   repeat (first|(refine Zan _ (by rfl) (fun W hW=>by (subst hW;go_simp;try with_reducible rfl)) ?_;simp only[Act.put,xq1,xq2,xq3])|(refine planN_off (by rfl) ?_;simp only[Act.put,xq1,xq2,xq3])|(refine planN_on0 _ (by rfl) (fun W hW=>by (go_simp;try with_reducible rfl)) ?_;simp only[Act.put,xq1,xq2,xq3]))
   refine Zai ?_
   go_wp2_with (first
    | (at_mapUpdate;refine Zag _ rfl _ _ _ 136 rfl 142 4 lnkKeyed Tryz.underlying136 okBool b.fb rs.length M rfl HMM.o.drew (by unfold maxLen;omega) _ (.bool false) _ rfl rfl (Zav _ _ hpm htm) rfl ?_;intro w8 hm8 hg8 hs8))
   have HK8:Hid (Kept (fun q=>q=b.fb) w2 w8):=zh ((Kept.refl _ _).drew.grown hg8 (fun j hj=>by cases hj;exact Or.inl rfl))
   have HR8:Hid (MapsMid w8 b (rs++[⟨x,ts⟩]) rs∧Kept (NB b) w2 w8):=zh (Zre HM2.o HND.o HK8.o x ts (by simp[hk]) ((show Is2 okBool w8 b.fb _ _ from ⟨_,hm8,Zb3 HFF.o hpm htm _⟩).congr (fun a b=>by simp[hk])))
   clear hm8 hg8 hs8 hk
   refine Zaj ?_
   go_wp2_with fail
   go_meet
   exact⟨zh HR8.o.1,zh HR8.o.2⟩
  have z8:(x.kind == 8)=false:=by rw[Bool.eq_false_iff];intro e;exact hk8 (beq_iff_eq.1 e)
  by_cases hk9:x.kind=9
  ·have hk:x.kind=9:=hk9
   have z9:(x.kind == 9)=true:=by rw[hk];rfl
   clear hk9
   have c15:w2.cell? ⟨cb,15,none⟩=some (.map (some b.mb)):=HBK2.o.cell 15
   have k0:w2.cell? ⟨b5,0,none⟩=some (.string x.person):=Hb5.o.cell 0
   have k1:w2.cell? ⟨b5,1,none⟩=some (.string x.text):=Hb5.o.cell 1
   obtain⟨M,hM,hf⟩:=HM2.o.mtd
   have HMM:=zh hM
   have HFF:=zh hf
   clear hM hf
   go_wp2_with fail
   refine Zaq (fun W=>W=w2.drew) [(0,1),(1,1),(2,1),(3,1),(4,1),(5,1),(6,1),(7,1),(8,3)] (by kernel_rfl) (by kernel_rfl) rfl ?_
   simp only[planNL,List.getElem?_cons_zero,List.getElem?_cons_succ]
   repeat (first|(refine Zan _ (by rfl) (fun W hW=>by (subst hW;go_simp;try with_reducible rfl)) ?_;simp only[Act.put,xq1,xq2,xq3])|(refine planN_off (by rfl) ?_;simp only[Act.put,xq1,xq2,xq3])|(refine planN_on0 _ (by rfl) (fun W hW=>by (go_simp;try with_reducible rfl)) ?_;simp only[Act.put,xq1,xq2,xq3]))
   refine Zai ?_
   go_wp2_with (first
    | (at_mapUpdate;refine Zag _ rfl _ _ _ 136 rfl 142 4 lnkKeyed Tryz.underlying136 okBool b.mb rs.length M rfl HMM.o.drew (by unfold maxLen;omega) _ (.bool true) _ rfl rfl (Zav _ _ hpm htm) rfl ?_;intro w8 hm8 hg8 hs8))
   have HK8:Hid (Kept (fun q=>q=b.mb) w2 w8):=zh ((Kept.refl _ _).drew.grown hg8 (fun j hj=>by cases hj;exact Or.inl rfl))
   have HR8:Hid (MapsMid w8 b (rs++[⟨x,ts⟩]) rs∧Kept (NB b) w2 w8):=zh (Zrf HM2.o HND.o HK8.o x ts (by simp[hk]) ((show Is2 okBool w8 b.mb _ _ from ⟨_,hm8,Zb3 HFF.o hpm htm _⟩).congr (fun a b=>by simp[hk])))
   clear hm8 hg8 hs8 hk
   refine Zaj ?_
   go_wp2_with fail
   go_meet
   exact⟨zh HR8.o.1,zh HR8.o.2⟩
  have z9:(x.kind == 9)=false:=by rw[Bool.eq_false_iff];intro e;exact hk9 (beq_iff_eq.1 e)
  by_cases hk10:x.kind=10
  ·have hk:x.kind=10:=hk10
   have z10:(x.kind == 10)=true:=by rw[hk];rfl
   clear hk10
   have c15:w2.cell? ⟨cb,15,none⟩=some (.map (some b.mb)):=HBK2.o.cell 15
   have k0:w2.cell? ⟨b5,0,none⟩=some (.string x.person):=Hb5.o.cell 0
   have k1:w2.cell? ⟨b5,1,none⟩=some (.string x.text):=Hb5.o.cell 1
   obtain⟨M,hM,hf⟩:=HM2.o.mtd
   have HMM:=zh hM
   have HFF:=zh hf
   clear hM hf
   go_wp2_with fail
   refine Zaq (fun W=>W=w2.drew) [(0,1),(1,1),(2,1),(3,1),(4,1),(5,1),(6,1),(7,1),(8,3)] (by kernel_rfl) (by kernel_rfl) rfl ?_
   simp only[planNL,List.getElem?_cons_zero,List.getElem?_cons_succ]
   repeat (first|(refine Zan _ (by rfl) (fun W hW=>by (subst hW;go_simp;try with_reducible rfl)) ?_;simp only[Act.put,xq1,xq2,xq3])|(refine planN_off (by rfl) ?_;simp only[Act.put,xq1,xq2,xq3])|(refine planN_on0 _ (by rfl) (fun W hW=>by (go_simp;try with_reducible rfl)) ?_;simp only[Act.put,xq1,xq2,xq3]))
   refine Zai ?_
   go_wp2_with (first
    | (at_mapUpdate;refine Zag _ rfl _ _ _ 136 rfl 142 4 lnkKeyed Tryz.underlying136 okBool b.mb rs.length M rfl HMM.o.drew (by unfold maxLen;omega) _ (.bool false) _ rfl rfl (Zav _ _ hpm htm) rfl ?_;intro w8 hm8 hg8 hs8))
   have HK8:Hid (Kept (fun q=>q=b.mb) w2 w8):=zh ((Kept.refl _ _).drew.grown hg8 (fun j hj=>by cases hj;exact Or.inl rfl))
   have HR8:Hid (MapsMid w8 b (rs++[⟨x,ts⟩]) rs∧Kept (NB b) w2 w8):=zh (Zrf HM2.o HND.o HK8.o x ts (by simp[hk]) ((show Is2 okBool w8 b.mb _ _ from ⟨_,hm8,Zb3 HFF.o hpm htm _⟩).congr (fun a b=>by simp[hk])))
   clear hm8 hg8 hs8 hk
   refine Zaj ?_
   go_wp2_with fail
   go_meet
   exact⟨zh HR8.o.1,zh HR8.o.2⟩
  have z10:(x.kind == 10)=false:=by rw[Bool.eq_false_iff];intro e;exact hk10 (beq_iff_eq.1 e)
  have HM8:Hid (MapsMid w2 b (rs++[⟨x,ts⟩]) rs):=zh (Zfx HM2.o (Kept.refl (fun _=>False) _) ⟨x,ts⟩ (Or.inl ⟨fun h=>h,by simp;omega⟩) (Or.inl ⟨fun h=>h,hk0⟩) (Or.inl ⟨fun h=>h,by simp;omega⟩) (Or.inl ⟨fun h=>h,by simp;omega⟩) (Or.inl ⟨fun h=>h,by simp;omega⟩) (fun h=>h) (fun h=>h))
  clear hk0 hk2 hk3 hk5 hk6 hk7 hk8 hk9 hk10
  go_wp2_with fail
  go_meet
  exact⟨HM8,zh (Kept.refl _ _)⟩
 case rest=>
 obtain⟨HMM,HKM⟩:=hcut
 obtain⟨w3,rfl⟩:∃w3:World,w3=wc:=⟨_,rfl⟩
 have HE3:Hid (Blk w3 w.heap.size 31 (evArr x)):=zh (HE2.o.kept HKM.o (HM2.o.nb_ne HE2.o))
 have HBK3:Hid (Blk w3 cb 140 (crCells half N last b)):=zh (HBK2.o.kept HKM.o (HM2.o.nb_ne HBK2.o))
 have H43:Hid (Blk w3 b4 142 #[.string x.person,.string x.item]):=zh (Hb4.o.kept HKM.o (HM2.o.nb_ne Hb4.o))
 have HK3:Hid (Kept (NB b) w w3):=zh ((below_kept HB2.o (zr _):Kept (NB b) w w2).trans HKM.o)
 obtain⟨lq,hlq⟩:∃lq,likB rs x.person x.item=lq:=⟨_,rfl⟩
 have HLQ:=zh hlq
 have HSC:Hid (∀W,Below w3.heap.size w3 W→EvAt W w.heap.size 0 x∧World.cell? W ⟨cb,16,none⟩=some (.map (some b.lb))∧World.cell? W ⟨b4,0,none⟩=some (.string x.person)∧World.cell? W ⟨b4,1,none⟩=some (.string x.item)∧(Instr.lookup 136 (.map (some b.lb)) (.agg #[.string x.person,.string x.item]) false).run Tryz.prog W = .ok (.bool lq) W):=zh (fun W hW=>by
  have hk:=below_kept (S:=fun _=>False) hW (zr _)
  have e1:=HE3.o.kept hk (fun h=>h)
  have e2:=HBK3.o.kept hk (fun h=>h)
  have e3:=H43.o.kept hk (fun h=>h)
  obtain⟨M,hM,hf⟩:=HMM.o.lik.kept hk (fun h=>h)
  have hl:=hM.look lnkKeyed Tryz.underlying136 (zeroBool _) rfl (Zav x.person x.item hpm him)
  rw[hf x.person x.item hpm him,Zj4,HLQ.o]at hl
  exact⟨⟨e1.cell 0,e1.cell 1,e1.cell 2,e1.cell 3,e1.cell 4,e1.cell 5,e1.cell 6,e1.cell 7⟩,e2.cell 16,e3.cell 0,e3.cell 1,hl⟩)
 obtain⟨wv,hwv⟩:∃wv,worthP x=wv:=⟨_,rfl⟩
 have HWV:=zh hwv
 have HWO:=zh (Zhs x w3.drew)
 rw[hwv]at HWO
 unfold evA at HWO
 have HS0:Hid (Below w3.heap.size w3 w3.drew):=zh (below_drew (Below.refl _ _))
 clear hlq hwv
 by_cases hpos:0<wv
 rotate_left
 ·have dp:decide (0<wv)=false:=decide_eq_false hpos
  have HPO:Hid (wv≤0):=zh (Int.not_lt.1 hpos)
  clear hpos
  go_wp2_with fail
  refine Zar (fun W=>Below w3.heap.size w3 W) [(0,false),(1,true),(2,false),(3,false),(4,false),(5,false),(6,false),(7,false),(8,false),(9,false),(10,false),(11,false)] (by kernel_rfl) (by kernel_rfl) HS0.o ?_
  simp only[planL,List.getElem?_cons_zero,List.getElem?_cons_succ]
  repeat (first|(refine Zaf _ (by rfl) (fun W hW=>by (obtain⟨⟨x0,x1,x2,x3,x4,x5,x6,x7⟩,x8,x9,x10,x11⟩:=HSC.o W hW;go_simp;try with_reducible rfl)) ?_;simp only[Act.put,xq1,xq2,xq3])|(refine Zac (by rfl) ?_;simp only[Act.put,xq1,xq2,xq3]))
  refine Zae ?_
  go_wp2_with fail
  refine HWO.o.mono ?_
  rintro e w4 ⟨rfl,hb4⟩
  have HB4:Hid (Below w3.heap.size w3 w4):=zh (HS0.o.trans hb4)
  clear hb4 HWO
  go_wp2_with fail
  refine⟨HB4.o,?_⟩
  repeat (first|(refine Zaf _ (by rfl) (fun W hW=>by (obtain⟨⟨x0,x1,x2,x3,x4,x5,x6,x7⟩,x8,x9,x10,x11⟩:=HSC.o W hW;go_simp;try with_reducible rfl)) ?_;simp only[Act.put,xq1,xq2,xq3])|(refine Zac (by rfl) ?_;simp only[Act.put,xq1,xq2,xq3]))
  refine Zah ?_
  have HF:=zh (Ziy HMM.o HND.o (below_kept HB4.o (zr _)) (((HMM.o.lik.kept (below_kept (S:=fun _=>False) HB4.o (zr _)) (fun h=>h)).mono (Nat.le_succ _)).congr (fun a b=>(Zr5 rs x ts (by rw[HWV.o];exact Int.not_lt.2 HPO.o) a b).symm)) (((HMM.o.fans.kept (below_kept (S:=fun _=>False) HB4.o (zr _)) (fun h=>h)).mono (Nat.le_succ _)).congr (fun kl=>by rw[show fansN (rs++[⟨x,ts⟩])=fansN rs from funext (Zhr rs x ts (fun h=>Int.not_lt.2 HPO.o (by rw[←HWV.o];exact h.1)))])))
  clear dp
  go_wp2_with fail
  go_end0
  exact⟨rfl,HF.o.1,HK3.o.trans HF.o.2⟩
 have dp:decide (0<wv)=true:=decide_eq_true hpos
 cases lq
 rotate_left
 ·go_wp2_with fail
  refine Zar (fun W=>Below w3.heap.size w3 W) [(0,false),(1,true),(2,false),(3,false),(4,false),(5,false),(6,false),(7,false),(8,false),(9,false),(10,false),(11,false)] (by kernel_rfl) (by kernel_rfl) HS0.o ?_
  simp only[planL,List.getElem?_cons_zero,List.getElem?_cons_succ]
  repeat (first|(refine Zaf _ (by rfl) (fun W hW=>by (obtain⟨⟨x0,x1,x2,x3,x4,x5,x6,x7⟩,x8,x9,x10,x11⟩:=HSC.o W hW;go_simp;try with_reducible rfl)) ?_;simp only[Act.put,xq1,xq2,xq3])|(refine Zac (by rfl) ?_;simp only[Act.put,xq1,xq2,xq3]))
  refine Zae ?_
  go_wp2_with fail
  refine HWO.o.mono ?_
  rintro e w4 ⟨rfl,hb4⟩
  have HB4:Hid (Below w3.heap.size w3 w4):=zh (HS0.o.trans hb4)
  clear hb4 HWO
  go_wp2_with fail
  refine⟨HB4.o,?_⟩
  repeat (first|(refine Zaf _ (by rfl) (fun W hW=>by (obtain⟨⟨x0,x1,x2,x3,x4,x5,x6,x7⟩,x8,x9,x10,x11⟩:=HSC.o W hW;go_simp;try with_reducible rfl)) ?_;simp only[Act.put,xq1,xq2,xq3])|(refine Zac (by rfl) ?_;simp only[Act.put,xq1,xq2,xq3]))
  refine Zah ?_
  have HF:=zh (Ziy HMM.o HND.o (below_kept HB4.o (zr _)) (((HMM.o.lik.kept (below_kept (S:=fun _=>False) HB4.o (zr _)) (fun h=>h)).mono (Nat.le_succ _)).congr (fun a b=>(Zr6 rs x ts HLQ.o a b).symm)) (((HMM.o.fans.kept (below_kept (S:=fun _=>False) HB4.o (zr _)) (fun h=>h)).mono (Nat.le_succ _)).congr (fun kl=>by rw[show fansN (rs++[⟨x,ts⟩])=fansN rs from funext (Zhr rs x ts (fun h=>by rw[HLQ.o]at h;cases h.2))])))
  clear dp hpos
  go_wp2_with fail
  go_end0
  exact⟨rfl,HF.o.1,HK3.o.trans HF.o.2⟩
 go_wp2_with fail
 refine Zar (fun W=>Below w3.heap.size w3 W) [(0,false),(1,true),(2,false),(3,false),(4,false),(5,false),(6,false),(7,false),(8,false),(9,false),(10,false),(11,false)] (by kernel_rfl) (by kernel_rfl) HS0.o ?_
 simp only[planL,List.getElem?_cons_zero,List.getElem?_cons_succ]
 repeat (first|(refine Zaf _ (by rfl) (fun W hW=>by (obtain⟨⟨x0,x1,x2,x3,x4,x5,x6,x7⟩,x8,x9,x10,x11⟩:=HSC.o W hW;go_simp;try with_reducible rfl)) ?_;simp only[Act.put,xq1,xq2,xq3])|(refine Zac (by rfl) ?_;simp only[Act.put,xq1,xq2,xq3]))
 refine Zae ?_
 go_wp2_with fail
 refine HWO.o.mono ?_
 rintro e w4 ⟨rfl,hb4⟩
 have HB4:Hid (Below w3.heap.size w3 w4):=zh (HS0.o.trans hb4)
 clear hb4 HWO
 go_wp2_with fail
 refine⟨HB4.o,?_⟩
 repeat (first|(refine Zaf _ (by rfl) (fun W hW=>by (obtain⟨⟨x0,x1,x2,x3,x4,x5,x6,x7⟩,x8,x9,x10,x11⟩:=HSC.o W hW;go_simp;try with_reducible rfl)) ?_;simp only[Act.put,xq1,xq2,xq3])|(refine Zac (by rfl) ?_;simp only[Act.put,xq1,xq2,xq3]))
 refine Zah ?_
 have HE4:Hid (Blk w4 w.heap.size 31 (evArr x)):=zh (HE3.o.kept (below_kept (S:=fun _=>False) HB4.o (zr _)) (fun h=>h))
 have HBK4:Hid (Blk w4 cb 140 (crCells half N last b)):=zh (HBK3.o.kept (below_kept (S:=fun _=>False) HB4.o (zr _)) (fun h=>h))
 have H44:Hid (Blk w4 b4 142 #[.string x.person,.string x.item]):=zh (H43.o.kept (below_kept (S:=fun _=>False) HB4.o (zr _)) (fun h=>h))
 have HLK:=HMM.o.lik.kept (below_kept (S:=fun _=>False) HB4.o (zr _)) (fun h=>h)
 have HFA:=zh (HMM.o.fans.kept (below_kept (S:=fun _=>False) HB4.o (zr _)) (fun h=>h))
 obtain⟨M,hM,hf⟩:=HLK
 have HMA:=zh hM
 have HFF:=zh hf
 have c16:w4.cell? ⟨cb,16,none⟩=some (.map (some b.lb)):=HBK4.o.cell 16
 have k0:w4.cell? ⟨b4,0,none⟩=some (.string x.person):=H44.o.cell 0
 have k1:w4.cell? ⟨b4,1,none⟩=some (.string x.item):=H44.o.cell 1
 clear hM hf dp
 go_wp2_with fail
 refine Zaq (fun W=>W=w4.drew) [(0,1),(1,1),(2,1),(3,1),(4,1),(5,3)] (by kernel_rfl) (by kernel_rfl) rfl ?_
 simp only[planNL,List.getElem?_cons_zero,List.getElem?_cons_succ]
 repeat (first|(refine Zan _ (by rfl) (fun W hW=>by (subst hW;go_simp;try with_reducible rfl)) ?_;simp only[Act.put,xq1,xq2,xq3])|(refine planN_off (by rfl) ?_;simp only[Act.put,xq1,xq2,xq3])|(refine planN_on0 _ (by rfl) (fun W hW=>by (go_simp;try with_reducible rfl)) ?_;simp only[Act.put,xq1,xq2,xq3]))
 refine Zai ?_
 go_wp2_with (first
  | (at_mapUpdate;refine Zag _ rfl _ _ _ 136 rfl 142 4 lnkKeyed Tryz.underlying136 okBool b.lb rs.length M rfl HMA.o.drew (by unfold maxLen;omega) _ (.bool true) _ rfl rfl (Zav _ _ hpm him) rfl ?_;intro w8 hm8 hg8 hs8))
 have HK8:Hid (Kept (fun q=>q=b.lb) w4 w8):=zh ((Kept.refl _ _).drew.grown hg8 (fun j hj=>by cases hj;exact Or.inl rfl))
 have HL8:Hid (Is2 okBool w8 b.lb (rs.length+1) (setF (likB (rs++[⟨x,ts⟩])))):=zh ((show Is2 okBool w8 b.lb _ _ from ⟨_,hm8,Zb3 HFF.o hpm him _⟩).congr (fun a b=>(Ztn rs x ts (by rw[HWV.o];exact hpos) a b).symm))
 have HF8:Hid (MapIs Tryz.prog 9 okInt w8 b.nb rs.length (mapG (cntG (fansN rs)))):=zh (HFA.o.kept HK8.o (fun h=>lb_nb HND.o h.symm))
 have c17:w8.cell? ⟨cb,17,none⟩=some (.map (some b.nb)):=(HBK4.o.kept HK8.o (fun h=>by have:=HMA.o.ne_blk HBK4.o;exact this h.symm)).cell 17
 have e5:w8.cell? ⟨w.heap.size,5,none⟩=some (.string x.item):=(HE4.o.kept HK8.o (fun h=>by have:=HMA.o.ne_blk HE4.o;exact this h.symm)).cell 5
 obtain⟨fq,hfq⟩:∃fq,fansN rs x.item=fq:=⟨_,rfl⟩
 have hfl:fq≤rs.length:=by rw[←hfq];exact Zrw rs x.item
 have hlk:(Instr.lookup 138 (.map (some b.nb)) (.string x.item) false).run Tryz.prog w8.drew = .ok (.int .i64 fq) w8.drew:=by
  have:=HF8.o.drew.look (string_keyed Tryz.underlying9) Tryz.underlying138 (zeroInt _) rfl (WideMaps.keyOf_string_mk Tryz.underlying9 him)
  rw[mapG_at,Zj3,hfq]at this
  exact this
 have hwq:IntKind.i64.wrap ((fq:Int)+1)=(fq:Int)+1:=IntWalk.i64_in _ (by omega)
 have HFQ:=zh hfq
 clear hm8 hg8 hs8 c16 k0 k1 hfq
 refine Zaj ?_
 go_wp2_with fail
 refine Zaq (fun W=>W=w8.drew) [(0,1),(1,1),(2,1),(3,1),(4,1),(5,1),(6,1),(7,1),(8,3)] (by kernel_rfl) (by kernel_rfl) rfl ?_
 simp only[planNL,List.getElem?_cons_zero,List.getElem?_cons_succ]
 repeat (first|(refine Zan _ (by rfl) (fun W hW=>by (subst hW;go_simp;try with_reducible rfl)) ?_;simp only[Act.put,xq1,xq2,xq3])|(refine planN_off (by rfl) ?_;simp only[Act.put,xq1,xq2,xq3])|(refine planN_on0 _ (by rfl) (fun W hW=>by (go_simp;try with_reducible rfl)) ?_;simp only[Act.put,xq1,xq2,xq3]))
 refine Zai ?_
 go_wp2_with (first
  | (at_mapUpdate;refine Zag _ rfl _ _ _ 138 rfl 9 3 (string_keyed Tryz.underlying9) Tryz.underlying138 okInt b.nb rs.length _ rfl HF8.o.drew (by unfold maxLen;omega) _ (.int .i64 ((fq:Int)+1)) _ rfl rfl (WideMaps.keyOf_string_mk Tryz.underlying9 him) rfl ?_;intro w9 hm9 hg9 hs9))
 have HK9:Hid (Kept (fun q=>q=b.lb∨q=b.nb) w3 w9):=zh (((below_kept HB4.o (zr _):Kept (fun q=>q=b.lb∨q=b.nb) w3 w4).trans' HK8.o (fun _ _ h=>Or.inl h)).trans' (((Kept.refl (fun q=>q=b.nb) w8).drew).grown hg9 (fun j hj=>by cases hj;exact Or.inl rfl)) (fun _ _ h=>Or.inr h))
 have HF:=zh (Ziy HMM.o HND.o HK9.o (HL8.o.kept (((Kept.refl (fun q=>q=b.nb) w8).drew).grown hg9 (fun j hj=>by cases hj;exact Or.inl rfl)) (lb_nb HND.o)) (hm9.congr (fun kl=>by
  have:=Zoy (fansN rs) x.item kl
  rw[HFQ.o]at this
  rw[this,Zms rs x ts (by rw[HWV.o];exact hpos) HLQ.o])))
 clear hm9 hg9 hs9 hlk hwq hpos c17 e5
 refine Zaj ?_
 go_wp2_with fail
 go_end0
 exact⟨rfl,HF.o.1,HK3.o.trans HF.o.2⟩
end Go.Proofs.YthdmpcnnbminlaaGreatDoor
