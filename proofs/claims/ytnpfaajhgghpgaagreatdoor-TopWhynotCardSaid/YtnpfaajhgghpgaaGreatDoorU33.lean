/- A part of the joined base. -/
import Derived.Test.YtnpfaajhgghpgaaGreatDoorU32
set_option linter.unusedVariables false
set_option maxHeartbeats 8000000
set_option maxRecDepth 100000
namespace Go.Proofs.YtnpfaajhgghpgaaGreatDoor
open Go.Shelf Go.RowKit Go.Maps
open Ru (Fz fzA fzX Nd holdsR)
theorem Zt2 (w:World)(x:Ev):(w.alloc (.cells (evArr x) 59)).ownsRow w.heap.size 59 8 (.slice (some ⟨w.heap.size,0,none⟩) 1 1) 1 (evC x):=
 ⟨rfl,Or.inr ⟨w.heap.size,1,evArr x,rfl,zr _,heap_alloc_new w _,zr _,by unfold maxLen;omega,rfl,rfl⟩⟩
def NewR (w:World)(cs:List Ev)(e:Ending)(w':World):Prop:=∃A n cp,e = .returned (.slice A n cp)/\cs.length=n/\w'.ownsRow w.heap.size 59 8 (.slice A n cp) n (cs.flatMap evC)/\Below w.heap.size w w'
theorem NewR.one {w w1:World}{x:Ev}(h:Below w.heap.size w w1):NewR w [x] (.returned (.slice (some ⟨w1.heap.size,0,none⟩) 1 1)) (w1.alloc (.cells (evArr x) 59)):=by
 refine⟨_,1,1,rfl,rfl,?_,h.alloc h.size _⟩;have h2:=Zt2 w1 x;rw[show [x].flatMap evC=evC x by simp];exact Zcz h2 h.size
theorem Zl8 (w:World)(q:Option Addr)(p i:ByteArray)(now:Int):Calls Tryz.prog 58 #[qA q p i now] w (NewR w [stockE i now]):=by
 obtain⟨w1,hw1⟩:=zG (w.alloc (.cells (qArr q p i now) 87));have HX1:Hid (Blk w1 w.heap.size 87 (qArr q p i now)):=zB hw1;have HB1:=zA hw1;obtain⟨-,-,x2,x3⟩:=zC4 HX1.o;have HR:=zh (NewR.one (x:=stockE i now) HB1.o);unfold qA;unfold qArr at hw1;go_enter Tryz.func58,Tryz.ntmps58;go_wp2_with fail;go_ret;exact HR.o
theorem Zol {w:World}{wb ct cr:Nat}{c:Cfg}{E:List Ev}(h:WrAt w wb ct cr c E)(hall:∀e∈E,EvOk e)(hlen:E.length<=1000)(q:Option Addr)(p i:ByteArray)(now:Int)(hi:i.size<=300):Calls Tryz.prog 56 #[qA q p i now,.pointer (some ⟨wb,0,none⟩)] w (NewR w [listE E i now]):=by
 obtain⟨X,hX⟩:=zG ((Ct.atP (thgs E) i now).getD Ct.it0);obtain⟨ok,hok⟩:=zG ((Ct.atP (thgs E) i now).isSome)
 have HXZ:Hid (X.maker.size<=300/\X.tags.size<=300):=zh (by
  rw[<-hX];cases ha:Ct.atP (thgs E) i now with
  | none=>exact⟨Nat.zero_le _,Nat.zero_le _⟩
  | some x=>
   have h1:=at_ok (m:=300) (fun e he=>(hall e he).1) (fun e he=>(hall e he).2) hi ha;exact⟨h1.maker,h1.tags⟩)
 have HLS:Hid (listE E i now=if X.maker=⟨#[]⟩ then ⟨⟨#[]⟩,0,now,11,⟨#[]⟩,i,0,noneT⟩ else ⟨⟨#[]⟩,0,now,11,⟨#[]⟩,i,X.price,X.maker++⟨#[59]⟩++X.tags⟩):=zh (by unfold listE mkrP;rw[hX]);have HX:=zh (And.intro hX hok);have HW:=zh h;have HLE:Hid (E.length<=1000/\i.size<=300):=zh ⟨hlen,hi⟩;obtain⟨w1,hw1⟩:=zG (w.alloc (.cells (qArr q p i now) 87));have HX1:Hid (Blk w1 w.heap.size 87 (qArr q p i now)):=zB hw1;have HB1:=zA hw1;obtain⟨-,-,x2,x3⟩:=zC4 HX1.o;obtain⟨w2,hw2⟩:=zG (w1.alloc (.cells (evArr ⟨⟨#[]⟩,0,now,11,⟨#[]⟩,i,0,noneT⟩) 59));obtain⟨eb,heb⟩:=zG (w1.heap.size);have HX2:Hid (Blk w2 eb 59 (evArr ⟨⟨#[]⟩,0,now,11,⟨#[]⟩,i,0,noneT⟩)):=zh (by rw[<-hw2,<-heb];exact Blk.new _ _ _);have HQ2:Hid (Blk w2 w.heap.size 87 (qArr q p i now)):=zh (by rw[<-hw2];exact HX1.o.alloc _);have HB2:Hid (Below w.heap.size w w2):=zh (by rw[<-hw2];exact HB1.o.alloc HB1.o.size _);have HEB:Hid (w.heap.size<=eb):=zh (by rw[<-heb];exact HB1.o.size);have HB0:Hid (∀W,Below w2.heap.size w2 W->Below w.heap.size w W):=zh (fun W hb=>HB2.o.trans (hb.mono HB2.o.size))
 have HQC:Hid (∀W,Below w2.heap.size w2 W->World.cell? W ⟨w.heap.size,1,none⟩=some (.string p)/\World.cell? W ⟨w.heap.size,2,none⟩=some (.string i)/\World.cell? W ⟨w.heap.size,3,none⟩=some (.int .i64 now)):=zh (fun W hb=>by
  have k:Blk W w.heap.size 87 (qArr q p i now):=(hb.block _ HQ2.o.lt).trans HQ2.o;exact⟨k.cell 1,k.cell 2,k.cell 3⟩)
 have HCA:Hid (∀W,Below w2.heap.size w2 W->Calls Tryz.prog 67 #[.pointer (some ⟨wb,0,none⟩)] W fun e w'=>e = .returned (.pointer (some ⟨ct,0,none⟩))/\W=w'):=zh (fun W hb=>Zcy (HW.o.below (HB0.o W hb)))
 have HAT:Hid (∀W,Below w2.heap.size w2 W->Calls Tryz.prog 68 #[.pointer (some ⟨ct,0,none⟩),.string i,.int .i64 now] W fun e w'=>e = .returned (.tuple #[.agg #[.string X.name,.string X.maker,.string X.tags,.int .i64 X.stock,.int .i64 X.price,.int .i64 X.born,.bool X.listed],.bool ok])/\Below W.heap.size W w'):=zh (fun W hb=>by
  obtain⟨F,hF⟩:=(HW.o.below (HB0.o W hb)).cat;have hle:=HLE.o;have htl:=Zdo E;have:=Ct.Zj9 ct F (thgs E) i now W hF (by omega) (by omega);unfold Ct.toldP Ct.itA at this;rw[HX.o.1,HX.o.2]at this;exact this)
 unfold qA;unfold qArr at hw1;unfold evArr noneT at hw2;dsimp only at hw2;clear h hall hlen hi hX hok;go_enter Tryz.func56,Tryz.ntmps56;go_upto_region 2 with fail;try rw[heb]
 try rw[hw2]
 clear hw1 hw2 heb x2 x3;go_cut [6] (fun v wx=>∃gb,v = .pointer (some ⟨gb,0,none⟩)/\Hid (Blk wx gb 95 #[.string X.name,.string X.maker,.string X.tags,.int .i64 X.stock,.int .i64 X.price,.int .i64 X.born,.bool X.listed])/\Hid (w2.heap.size<=gb)/\Hid (Below w2.heap.size w2 wx))
 case first=>
  refine Zgw (fun W=>Below w2.heap.size w2 W) (.take 0 (.take 2 (.take 3 (.take 4 (.take 5 (.fork 1 (.fork 6 (.take 7 (.take 8 (.take 9 (.turn 10 (.turn 11 (.take 12 .done)))))) 10 (.turn 6 (.take 7 (.take 8 (.take 9 (.turn 11 (.take 12 .done))))))) 10 (.turn 1 (.turn 6 (.take 7 (.take 8 (.take 9 (.turn 11 (.take 12 .done))))))))))))) (by kernel_rfl) (by kernel_rfl) (below_drew (Below.refl _ _)) ?_;simp only[planTL,xq4,xq5];obtain⟨wd,hwd⟩:=zG (w2.drew);have HBD:=zD hwd;rw[hwd];clear hwd
  repeat ((first|(refine Zal _ (by rfl) (fun W hW=>by (obtain⟨x1,x2,x3⟩:=HQC.o W hW;go_simp;try with_reducible rfl)) ?_)|(refine planT_off (by rfl) ?_));simp only[Act.put,xq1,xq2,xq3])
  refine Zcc ?_ ?_
  ·have HCv1:=zh (HCA.o wd HBD.o);go_wp2_with fail;refine HCv1.o.mono ?_;rintro e v1 ⟨rfl,rfl⟩;clear HCv1;go_wp2_with fail;refine⟨HBD.o,?_⟩
   repeat ((first|(refine Zal _ (by rfl) (fun W hW=>by (obtain⟨x1,x2,x3⟩:=HQC.o W hW;go_simp;try with_reducible rfl)) ?_)|(refine planT_off (by rfl) ?_));simp only[Act.put,xq1,xq2,xq3])
   refine Zcc ?_ ?_
   ·have HCv2:=zh (HAT.o wd HBD.o);go_wp2_with fail;refine HCv2.o.mono ?_;rintro e v2 ⟨rfl,hbv2⟩;have HEv2:=zT HBD hbv2;clear hbv2 HCv2;go_wp2_with fail;refine⟨HEv2.o,?_⟩
    repeat ((first|(refine Zal _ (by rfl) (fun W hW=>by (obtain⟨x1,x2,x3⟩:=HQC.o W hW;go_simp;try with_reducible rfl)) ?_)|(refine planT_off (by rfl) ?_));simp only[Act.put,xq1,xq2,xq3])
    refine Zap ?_;obtain⟨gv3,hgv3⟩:=zG (v2.heap.size);obtain⟨v3,hav3⟩:=zG (v2.alloc (.cells #[.string ⟨#[]⟩,.string ⟨#[]⟩,.string ⟨#[]⟩,.int .i64 0,.int .i64 0,.int .i64 0,.bool false] 95));have HXv3:Hid (Blk v3 gv3 95 #[.string ⟨#[]⟩,.string ⟨#[]⟩,.string ⟨#[]⟩,.int .i64 0,.int .i64 0,.int .i64 0,.bool false]):=zh (by rw[<-hav3,<-hgv3];exact Blk.new _ _ _);have HEv3:Hid (Below w2.heap.size w2 v3):=zh (by rw[<-hav3];exact HEv2.o.alloc HEv2.o.size _);have HGv3:Hid (w2.heap.size<=gv3):=zh (by rw[<-hgv3];exact HEv2.o.size);go_wp2_with fail;try rw[hgv3]
    try rw[hav3]
    clear hgv3 hav3;refine⟨HEv3.o,?_⟩
    repeat ((first|(refine Zal _ (by rfl) (fun W hW=>by (obtain⟨x1,x2,x3⟩:=HQC.o W hW;go_simp;try with_reducible rfl)) ?_)|(refine planT_off (by rfl) ?_));simp only[Act.put,xq1,xq2,xq3])
    refine Zap ?_;refine Zad v3 rfl 95 _ _ rfl 0 #[.string X.name,.string X.maker,.string X.tags,.int .i64 X.stock,.int .i64 X.price,.int .i64 X.born,.bool X.listed] rfl rfl HXv3.o (by show 0+7<=7;omega) Zcq (by simp[Value.oneCell']) ?_;intro v4 hbv4 hkv4 hzv4;simp only[putA,xq1,xq2,xq3]at hbv4;have HXv4:Hid (Blk v4 gv3 95 #[.string X.name,.string X.maker,.string X.tags,.int .i64 X.stock,.int .i64 X.price,.int .i64 X.born,.bool X.listed]):=zh hbv4;have HEv4:Hid (Below w2.heap.size w2 v4):=zh (HEv3.o.trans (hkv4.toBelow (fun i hi=>by rw[hi];exact HGv3.o) HEv3.o.size));clear hbv4 hkv4 hzv4;refine⟨HEv4.o,?_⟩
    repeat ((first|(refine Zal _ (by rfl) (fun W hW=>by (obtain⟨x1,x2,x3⟩:=HQC.o W hW;go_simp;try with_reducible rfl)) ?_)|(refine planT_off (by rfl) ?_));simp only[Act.put,xq1,xq2,xq3])
    refine Zbf ?_;go_wp2_with fail;go_meet;exact⟨gv3,rfl,HXv4,HGv3,HEv4⟩
   ·obtain⟨gv5,hgv5⟩:=zG (wd.heap.size);obtain⟨v5,hav5⟩:=zG (wd.alloc (.cells #[.string ⟨#[]⟩,.string ⟨#[]⟩,.string ⟨#[]⟩,.int .i64 0,.int .i64 0,.int .i64 0,.bool false] 95));have HXv5:Hid (Blk v5 gv5 95 #[.string ⟨#[]⟩,.string ⟨#[]⟩,.string ⟨#[]⟩,.int .i64 0,.int .i64 0,.int .i64 0,.bool false]):=zh (by rw[<-hav5,<-hgv5];exact Blk.new _ _ _);have HEv5:Hid (Below w2.heap.size w2 v5):=zh (by rw[<-hav5];exact HBD.o.alloc HBD.o.size _);have HGv5:Hid (w2.heap.size<=gv5):=zh (by rw[<-hgv5];exact HBD.o.size);go_wp2_with fail;try rw[hgv5]
    try rw[hav5]
    clear hgv5 hav5;refine⟨HEv5.o,?_⟩
    repeat ((first|(refine Zal _ (by rfl) (fun W hW=>by (obtain⟨x1,x2,x3⟩:=HQC.o W hW;go_simp;try with_reducible rfl)) ?_)|(refine planT_off (by rfl) ?_));simp only[Act.put,xq1,xq2,xq3])
    refine Zap ?_;have HCv6:=zh (HAT.o v5 HEv5.o);go_wp2_with fail;refine HCv6.o.mono ?_;rintro e v6 ⟨rfl,hbv6⟩;have HEv6:=zT HEv5 hbv6;have HXv6:Hid (Blk v6 gv5 95 #[.string ⟨#[]⟩,.string ⟨#[]⟩,.string ⟨#[]⟩,.int .i64 0,.int .i64 0,.int .i64 0,.bool false]):=zX HXv5 hbv6;clear hbv6 HCv6;go_wp2_with fail;refine⟨HEv6.o,?_⟩
    repeat ((first|(refine Zal _ (by rfl) (fun W hW=>by (obtain⟨x1,x2,x3⟩:=HQC.o W hW;go_simp;try with_reducible rfl)) ?_)|(refine planT_off (by rfl) ?_));simp only[Act.put,xq1,xq2,xq3])
    refine Zap ?_;refine Zad v6 rfl 95 _ _ rfl 0 #[.string X.name,.string X.maker,.string X.tags,.int .i64 X.stock,.int .i64 X.price,.int .i64 X.born,.bool X.listed] rfl rfl HXv6.o (by show 0+7<=7;omega) Zcq (by simp[Value.oneCell']) ?_;intro v7 hbv7 hkv7 hzv7;simp only[putA,xq1,xq2,xq3]at hbv7;have HXv7:Hid (Blk v7 gv5 95 #[.string X.name,.string X.maker,.string X.tags,.int .i64 X.stock,.int .i64 X.price,.int .i64 X.born,.bool X.listed]):=zh hbv7;have HEv7:Hid (Below w2.heap.size w2 v7):=zh (HEv6.o.trans (hkv7.toBelow (fun i hi=>by rw[hi];exact HGv5.o) HEv6.o.size));clear hbv7 hkv7 hzv7;refine⟨HEv7.o,?_⟩
    repeat ((first|(refine Zal _ (by rfl) (fun W hW=>by (obtain⟨x1,x2,x3⟩:=HQC.o W hW;go_simp;try with_reducible rfl)) ?_)|(refine planT_off (by rfl) ?_));simp only[Act.put,xq1,xq2,xq3])
    refine Zbf ?_;go_wp2_with fail;go_meet;exact⟨gv5,rfl,HXv7,HGv5,HEv7⟩
  ·obtain⟨gv8,hgv8⟩:=zG (wd.heap.size);obtain⟨v8,hav8⟩:=zG (wd.alloc (.cells #[.string ⟨#[]⟩,.string ⟨#[]⟩,.string ⟨#[]⟩,.int .i64 0,.int .i64 0,.int .i64 0,.bool false] 95));have HXv8:Hid (Blk v8 gv8 95 #[.string ⟨#[]⟩,.string ⟨#[]⟩,.string ⟨#[]⟩,.int .i64 0,.int .i64 0,.int .i64 0,.bool false]):=zh (by rw[<-hav8,<-hgv8];exact Blk.new _ _ _);have HEv8:Hid (Below w2.heap.size w2 v8):=zh (by rw[<-hav8];exact HBD.o.alloc HBD.o.size _);have HGv8:Hid (w2.heap.size<=gv8):=zh (by rw[<-hgv8];exact HBD.o.size);go_wp2_with fail;try rw[hgv8]
   try rw[hav8]
   clear hgv8 hav8;refine⟨HEv8.o,?_⟩
   repeat ((first|(refine Zal _ (by rfl) (fun W hW=>by (obtain⟨x1,x2,x3⟩:=HQC.o W hW;go_simp;try with_reducible rfl)) ?_)|(refine planT_off (by rfl) ?_));simp only[Act.put,xq1,xq2,xq3])
   refine Zap ?_;have HCv9:=zh (HCA.o v8 HEv8.o);go_wp2_with fail;refine HCv9.o.mono ?_;rintro e v9 ⟨rfl,rfl⟩;clear HCv9;go_wp2_with fail;refine⟨HEv8.o,?_⟩
   repeat ((first|(refine Zal _ (by rfl) (fun W hW=>by (obtain⟨x1,x2,x3⟩:=HQC.o W hW;go_simp;try with_reducible rfl)) ?_)|(refine planT_off (by rfl) ?_));simp only[Act.put,xq1,xq2,xq3])
   refine Zap ?_;have HCv10:=zh (HAT.o v8 HEv8.o);go_wp2_with fail;refine HCv10.o.mono ?_;rintro e v10 ⟨rfl,hbv10⟩;have HEv10:=zT HEv8 hbv10;have HXv10:Hid (Blk v10 gv8 95 #[.string ⟨#[]⟩,.string ⟨#[]⟩,.string ⟨#[]⟩,.int .i64 0,.int .i64 0,.int .i64 0,.bool false]):=zX HXv8 hbv10;clear hbv10 HCv10;go_wp2_with fail;refine⟨HEv10.o,?_⟩
   repeat ((first|(refine Zal _ (by rfl) (fun W hW=>by (obtain⟨x1,x2,x3⟩:=HQC.o W hW;go_simp;try with_reducible rfl)) ?_)|(refine planT_off (by rfl) ?_));simp only[Act.put,xq1,xq2,xq3])
   refine Zap ?_;refine Zad v10 rfl 95 _ _ rfl 0 #[.string X.name,.string X.maker,.string X.tags,.int .i64 X.stock,.int .i64 X.price,.int .i64 X.born,.bool X.listed] rfl rfl HXv10.o (by show 0+7<=7;omega) Zcq (by simp[Value.oneCell']) ?_;intro v11 hbv11 hkv11 hzv11;simp only[putA,xq1,xq2,xq3]at hbv11;have HXv11:Hid (Blk v11 gv8 95 #[.string X.name,.string X.maker,.string X.tags,.int .i64 X.stock,.int .i64 X.price,.int .i64 X.born,.bool X.listed]):=zh hbv11;have HEv11:Hid (Below w2.heap.size w2 v11):=zh (HEv10.o.trans (hkv11.toBelow (fun i hi=>by rw[hi];exact HGv8.o) HEv10.o.size));clear hbv11 hkv11 hzv11;refine⟨HEv11.o,?_⟩
   repeat ((first|(refine Zal _ (by rfl) (fun W hW=>by (obtain⟨x1,x2,x3⟩:=HQC.o W hW;go_simp;try with_reducible rfl)) ?_)|(refine planT_off (by rfl) ?_));simp only[Act.put,xq1,xq2,xq3])
   refine Zbf ?_;go_wp2_with fail;go_meet;exact⟨gv8,rfl,HXv11,HGv8,HEv11⟩
 case rest=>
 obtain⟨gb,rfl,HX3,HGB,HB3⟩:=hcut;obtain⟨w3,rfl⟩:=zH wc;have HE3:Hid (Blk w3 eb 59 (evArr ⟨⟨#[]⟩,0,now,11,⟨#[]⟩,i,0,noneT⟩)):=zh ((HB3.o.block _ HX2.o.lt).trans HX2.o);have HBW:=zh (HB0.o w3 HB3.o);have hne:eb≠gb:=by have:=HX2.o.lt;have:=HGB.o;omega
 have HNE:=zh hne;have i1:w3.cell? ⟨gb,1,none⟩=some (.string X.maker):=HX3.o.cell 1;clear HCA HAT HQC hne;by_cases hmk:X.maker=⟨#[]⟩
 ·have z1:X.maker.toList.isEmpty=true:=by rw[Zcj,decide_eq_true hmk]
  have HL2:Hid (listE E i now=⟨⟨#[]⟩,0,now,11,⟨#[]⟩,i,0,noneT⟩):=zh (by rw[HLS.o,if_pos hmk]);have HR:=zh (NewR.one (x:=⟨⟨#[]⟩,0,now,11,⟨#[]⟩,i,0,noneT⟩) HBW.o);unfold evArr noneT at HR HE3;obtain⟨q0,q1,q2,q3,q4,q5,q6,q7⟩:=zC8 HE3.o;clear hmk;go_wp2_with fail;go_ret;rw[HL2.o];exact HR.o
 ·have z1:X.maker.toList.isEmpty=false:=by rw[Zcj,decide_eq_false hmk]
  have HL2:Hid (listE E i now=⟨⟨#[]⟩,0,now,11,⟨#[]⟩,i,X.price,X.maker++⟨#[59]⟩++X.tags⟩):=zh (by rw[HLS.o,if_neg hmk]);have HSC:Hid (World.cell? w3 ⟨gb,1,none⟩=some (.string X.maker)/\World.cell? w3 ⟨gb,2,none⟩=some (.string X.tags)/\World.cell? w3 ⟨gb,4,none⟩=some (.int .i64 X.price)):=zh ⟨HX3.o.cell 1,HX3.o.cell 2,HX3.o.cell 4⟩;obtain⟨hm3,ht3⟩:=HXZ.o;have hs1:(X.maker++⟨#[59]⟩:ByteArray).size=X.maker.size+1:=by rw[ByteArray.size_append];rfl
  clear hmk HX3;go_upto_region 4 with fail;obtain⟨wd,hwd⟩:=zG (w3.drew);have HED:Hid (Blk wd eb 59 (evArr ⟨⟨#[]⟩,0,now,11,⟨#[]⟩,i,0,noneT⟩)):=zh (by rw[<-hwd];exact HE3.o);have HBD:Hid (Below w.heap.size w wd):=zh (by rw[<-hwd];exact below_drew HBW.o);have HSD:Hid (World.cell? wd ⟨gb,1,none⟩=some (.string X.maker)/\World.cell? wd ⟨gb,2,none⟩=some (.string X.tags)/\World.cell? wd ⟨gb,4,none⟩=some (.int .i64 X.price)):=zh (by rw[<-hwd];exact HSC.o);refine Zar (fun W=>World.cell? W ⟨gb,1,none⟩=some (.string X.maker)/\World.cell? W ⟨gb,2,none⟩=some (.string X.tags)/\World.cell? W ⟨gb,4,none⟩=some (.int .i64 X.price)) [(0,false),(1,false),(2,false),(3,false),(4,false),(5,false),(6,false),(7,false),(8,false),(9,true),(10,false),(11,true)] (by kernel_rfl) (by kernel_rfl) (by rw[hwd];exact HSD.o) ?_;simp only[planL,xq4,xq5];rw[hwd];clear hwd i1
  repeat ((first|(refine Zaf _ (by rfl) (fun W hW=>by (obtain⟨i1,i2,i4⟩:=hW;go_simp;try (first|with_reducible rfl|rw[if_neg (by omega)]))) ?_)|(refine Zac (by rfl) ?_));simp only[Act.put,xq1,xq2,xq3])
  refine Zae ?_;have g6:wd.cell? ⟨eb,6,none⟩=some (.int .i64 0):=HED.o.cell 6;have f6:=HED.o.frozen 6;go_wp2_with fail;obtain⟨w5,hw5⟩:=zG (wd.setCell ⟨eb,6,none⟩ (.int .i64 X.price));rw[hw5];have HE5:Hid (Blk w5 eb 59 (evArr ⟨⟨#[]⟩,0,now,11,⟨#[]⟩,i,X.price,noneT⟩)):=zh (by rw[<-hw5];exact HED.o.set_ 6 _);have HB5:Hid (Below w.heap.size w w5):=zh (by rw[<-hw5];exact HBD.o.setCell (p:=⟨eb,6,none⟩) HEB.o _)
  have HS5:Hid (World.cell? w5 ⟨gb,1,none⟩=some (.string X.maker)/\World.cell? w5 ⟨gb,2,none⟩=some (.string X.tags)/\World.cell? w5 ⟨gb,4,none⟩=some (.int .i64 X.price)):=zh (by
   rw[<-hw5];exact⟨(World.cell?_setCell_far _ _ _ _ HNE.o).trans HSD.o.1,(World.cell?_setCell_far _ _ _ _ HNE.o).trans HSD.o.2.1,(World.cell?_setCell_far _ _ _ _ HNE.o).trans HSD.o.2.2⟩)
  clear hw5 g6 f6;refine⟨HS5.o,?_⟩
  repeat ((first|(refine Zaf _ (by rfl) (fun W hW=>by (obtain⟨i1,i2,i4⟩:=hW;go_simp;try (first|with_reducible rfl|rw[if_neg (by omega)]))) ?_)|(refine Zac (by rfl) ?_));simp only[Act.put,xq1,xq2,xq3])
  refine Zae ?_;have g7:w5.cell? ⟨eb,7,none⟩=some (.string noneT):=HE5.o.cell 7;have f7:=HE5.o.frozen 7;go_wp2_with fail;obtain⟨w6,hw6⟩:=zG (w5.setCell ⟨eb,7,none⟩ (.string (X.maker++⟨#[59]⟩++X.tags)));rw[hw6];have HE6:Hid (Blk w6 eb 59 (evArr ⟨⟨#[]⟩,0,now,11,⟨#[]⟩,i,X.price,X.maker++⟨#[59]⟩++X.tags⟩)):=zh (by rw[<-hw6];exact HE5.o.set_ 7 _);have HB6:Hid (Below w.heap.size w w6):=zh (by rw[<-hw6];exact HB5.o.setCell (p:=⟨eb,7,none⟩) HEB.o _)
  have HS6:Hid (World.cell? w6 ⟨gb,1,none⟩=some (.string X.maker)/\World.cell? w6 ⟨gb,2,none⟩=some (.string X.tags)/\World.cell? w6 ⟨gb,4,none⟩=some (.int .i64 X.price)):=zh (by
   rw[<-hw6];exact⟨(World.cell?_setCell_far _ _ _ _ HNE.o).trans HS5.o.1,(World.cell?_setCell_far _ _ _ _ HNE.o).trans HS5.o.2.1,(World.cell?_setCell_far _ _ _ _ HNE.o).trans HS5.o.2.2⟩)
  clear hw6 g7 f7;refine⟨HS6.o,?_⟩;refine Zah ?_;obtain⟨tx,htx⟩:=zG (X.maker++⟨#[59]⟩++X.tags);rw[htx]at HE6 ⊢;have HR:=zh (NewR.one (x:=⟨⟨#[]⟩,0,now,11,⟨#[]⟩,i,X.price,tx⟩) HB6.o);unfold evArr at HR HE6;obtain⟨q0,q1,q2,q3,q4,q5,q6,q7⟩:=zC8 HE6.o;have HTX:=zh htx;clear htx;go_wp2_with fail;go_ret;rw[HL2.o,HTX.o];exact HR.o
def hidL (a:Bool)(lt:Int)(p i:ByteArray):List Ev:=if a then [⟨⟨#[]⟩,0,lt,6,p,i,0,⟨#[]⟩⟩] else []
def mutL (a:Bool)(lt:Int)(p m:ByteArray):List Ev:=if a then [⟨⟨#[]⟩,0,lt,10,p,⟨#[]⟩,0,m⟩] else []
theorem Zjl {w:World}{wb ct cr:Nat}{c:Cfg}{E:List Ev}(h:WrAt w wb ct cr c E)(hall:∀e∈E,EvOk e)(hlen:E.length<=1000)(hs:SortedE E)(q:Option Addr)(p i:ByteArray)(now:Int)(hp:p.size<=300)(hi:i.size<=300):Calls Tryz.prog 60 #[qA q p i now,.pointer (some ⟨wb,0,none⟩)] w (NewR w (unhideL E p i now)):=by
 obtain⟨i0,hi0,hy0,hy1,hy2⟩:=info_parts Zdd;obtain⟨X,hX⟩:=zG ((Ct.atP (thgs E) i now).getD Ct.it0);obtain⟨ok,hok⟩:=zG ((Ct.atP (thgs E) i now).isSome)
 have HXZ:Hid (X.maker.size<=300/\X.tags.size<=300):=zh (by
  rw[<-hX];cases ha:Ct.atP (thgs E) i now with
  | none=>exact⟨Nat.zero_le _,Nat.zero_le _⟩
  | some x=>
   have h1:=at_ok (m:=300) (fun e he=>(hall e he).1) (fun e he=>(hall e he).2) hi ha;exact⟨h1.maker,h1.tags⟩)
 obtain⟨a,ha⟩:=zG ((hidO (rowsW E) p i).getD false);obtain⟨mu,hmu⟩:=zG (decide (mutO (rowsW E) p X.maker=some true));obtain⟨lt,hlt⟩:=zG (lateP E now)
 have HUN:Hid (unhideL E p i now=hidL a lt p i++mutL mu lt p X.maker):=zh (by
  unfold unhideL mkrP hidL mutL;rw[hX,ha,hlt,<-hmu];simp only[decide_eq_true_eq])
 have HX:=zh (And.intro hX hok);have HW:=zh h;have HLE:Hid (E.length<=1000/\i.size<=300):=zh ⟨hlen,hi⟩;have HLT:Hid (∀W,Below w.heap.size w W->Calls Tryz.prog 100 #[qA q p i now,.pointer (some ⟨wb,0,none⟩)] W fun e w'=>e = .returned (.int .i64 lt)/\Below W.heap.size W w'):=zh (fun W hb=>by rw[<-hlt];exact Zk8 (h.below hb) hlen hs q p i now);obtain⟨U,hU⟩:=h.crw;have hrl:=Zcs E;have HHD:Hid (∀W,Below w.heap.size w W->Calls Tryz.prog 28 #[.pointer (some ⟨cr,0,none⟩),.string p,.string i] W fun e w'=>e = .returned (.bool a)/\Below W.heap.size W w'):=zh (fun W hb=>by rw[<-ha];exact Zfb cr (halfP c.half) U (rowsW E) p i W (hU.below hb) (by unfold maxLen;omega) (by unfold maxLen;omega))
 have HMU:Hid (∀W,Below w.heap.size w W->Calls Tryz.prog 30 #[.pointer (some ⟨cr,0,none⟩),.string p] W fun e w'=>∃(A:Option Addr) (c:Nat) (ks:List ByteArray),e = .returned (.slice A ks.length c)/\memB X.maker ks=mu/\RowIn w' w'.heap.size 1 A ks.length (ks.map .string)/\ks.length<=1000/\Below W.heap.size W w'):=zh (fun W hb=>by
  refine (Zhz cr (halfP c.half) U (rowsW E) p W (hU.below hb) (by unfold maxLen;omega) (by omega)).mono ?_;rintro e w' ⟨A,c,ks,rfl,h1,h2,h3,h4⟩;exact⟨A,c,ks,rfl,by rw[Zfg h1,hmu],RowIn.of_own h2,h3,h4⟩)
 have HCR:Hid (∀W,Below w.heap.size w W->Calls Tryz.prog 26 #[.pointer (some ⟨wb,0,none⟩)] W fun e w'=>e = .returned (.pointer (some ⟨cr,0,none⟩))/\W=w'):=zh (fun W hb=>Zbt (HW.o.below hb));obtain⟨w1,hw1⟩:=zG (w.alloc (.cells (qArr q p i now) 87));have HX1:Hid (Blk w1 w.heap.size 87 (qArr q p i now)):=zB hw1;have HB1:=zA hw1;obtain⟨x0,x1,x2,x3⟩:=zC4 HX1.o;have HC:=zh (HLT.o w1 HB1.o);unfold qA at HC ⊢;unfold qArr at hw1;clear h hall hlen hs hp hi hX hok ha hmu hlt hU hrl HLT;go_enter Tryz.func60,Tryz.ntmps60;go_wp2_with fail;refine HC.o.mono ?_;rintro e w2 ⟨rfl,hb2⟩;have HB2:=zT HB1 hb2;have HQ2:Hid (Blk w2 w.heap.size 87 (qArr q p i now)):=zX HX1 hb2;have HB02:Hid (∀W,Below w2.heap.size w2 W->Below w.heap.size w W):=zh (fun W hb=>HB2.o.trans (hb.mono HB2.o.size))
 have HQC:Hid (∀W,Below w2.heap.size w2 W->World.cell? W ⟨w.heap.size,1,none⟩=some (.string p)/\World.cell? W ⟨w.heap.size,2,none⟩=some (.string i)/\World.cell? W ⟨w.heap.size,3,none⟩=some (.int .i64 now)):=zh (fun W hb=>by
  have k:Blk W w.heap.size 87 (qArr q p i now):=(hb.block _ HQ2.o.lt).trans HQ2.o;exact⟨k.cell 1,k.cell 2,k.cell 3⟩)
 clear hb2 hw1 x0 x1 x2 x3 HC;go_upto_region 3 with fail;refine Zar (fun W=>Below w2.heap.size w2 W) [(0,false),(2,false),(3,false),(4,false),(5,false),(1,true),(6,true)] (by kernel_rfl) (by kernel_rfl) (below_drew (Below.refl _ _)) ?_;simp only[planL,xq4,xq5];obtain⟨wd,hwd⟩:=zG (w2.drew);have HBD:=zD hwd;rw[hwd];clear hwd
 repeat ((first|(refine Zaf _ (by rfl) (fun W hW=>by (obtain⟨x1,x2,x3⟩:=HQC.o W hW;go_simp;try with_reducible rfl)) ?_)|(refine Zac (by rfl) ?_));simp only[Act.put,xq1,xq2,xq3])
 refine Zae ?_;have HC:=zh (HCR.o wd (HB02.o wd HBD.o));go_wp2_with fail;refine HC.o.mono ?_;rintro e w3 ⟨rfl,rfl⟩;clear HC;go_wp2_with fail;refine⟨HBD.o,?_⟩
 repeat ((first|(refine Zaf _ (by rfl) (fun W hW=>by (obtain⟨x1,x2,x3⟩:=HQC.o W hW;go_simp;try with_reducible rfl)) ?_)|(refine Zac (by rfl) ?_));simp only[Act.put,xq1,xq2,xq3])
 refine Zae ?_;have HC:=zh (HHD.o wd (HB02.o wd HBD.o));go_wp2_with fail;refine HC.o.mono ?_;rintro e w3 ⟨rfl,hb3⟩;have HB3:=zT HBD hb3;clear hb3 HC HHD;go_wp2_with fail;refine⟨HB3.o,?_⟩;refine Zah ?_;have HBW3:=zh (HB02.o w3 HB3.o);have HQ3:Hid (Blk w3 w.heap.size 87 (qArr q p i now)):=zh ((HB3.o.block _ HQ2.o.lt).trans HQ2.o);obtain⟨-,x1,x2,-⟩:=zC4 HQ3.o;have HZW:=zh HQ3.o.lt;clear HQC HB02 HB3 HQ2;go_upto_if 18 with fail;go_cut [5] (fun v wx=>∃A m cp,v = .slice A m cp/\m<=1/\Hid ((hidL a lt p i).length=m)/\Hid (wx.ownsRow (w.heap.size+1) 59 8 (.slice A m cp) m ((hidL a lt p i).flatMap evC))/\Hid (Blk wx w.heap.size 87 (qArr q p i now))/\Hid (Below w.heap.size w wx))
 case first=>
  cases a with
  | false=>
   go_wp2_with fail;go_meet;exact⟨none,0,0,rfl,by omega,zh rfl,zh (own_nil _ _ _ _),HQ3,HBW3⟩
  | true=>
   have HR9:Hid (RowIn (w3.alloc (.cells (evArr ⟨⟨#[]⟩,0,lt,6,p,i,0,⟨#[]⟩⟩) 59)) (w3.heap.size+1) 8 (some ⟨w3.heap.size,0,none⟩) 1 (evC ⟨⟨#[]⟩,0,lt,6,p,i,0,⟨#[]⟩⟩)):=zh (Zhm w3 _ _);unfold evArr at HR9;have hz3:w.heap.size+1<=w3.heap.size+1:=by have:=HBW3.o.size;omega
   go_wp2_with (first
    | (at_builtin;refine Zaa _ rfl _ _ 23 rfl (w.heap.size+1) 59 i0 _ 8 96 Tryz.underlying23 hi0 hy0 hy1 hy2 rfl (by omega) (.slice none 0 0) 0 [] rfl (own_nil _ _ _ _) (w3.heap.size+1) (some ⟨w3.heap.size,0,none⟩) 1 1 (evC ⟨⟨#[]⟩,0,lt,6,p,i,0,⟨#[]⟩⟩) rfl HR9.o (fun h=>by cases h) (fun u hu=>Zb1 [⟨⟨#[]⟩,0,lt,6,p,i,0,⟨#[]⟩⟩] u (by simpa using hu)) (by unfold maxLen;omega) (by omega) (by simp;omega) ?_;intro v9 w9 ho9 hg9 hv9)
    | fail)
   obtain⟨A9,c9,hr9⟩:=Zbh ho9;subst hr9;have HG9:=zh hg9;have HO9:=zh ho9;clear hg9 ho9 hv9;go_wp2_with fail;go_meet;refine⟨A9,1,c9,rfl,by omega,zh rfl,zh (by simpa [hidL] using HO9.o),zh ?_,zh ((HBW3.o.alloc HBW3.o.size _).grown HG9.o (HBW3.o.alloc HBW3.o.size _).size (fun j hj=>(by cases hj)))⟩;exact ((HQ3.o.alloc _).grown HG9.o (by simp[Value.ownBlock]))
 case rest=>
 obtain⟨A5,m5,c5,rfl,hm5,HM5,HO5,HQ5,HBW5⟩:=hcut;obtain⟨w5,rfl⟩:=zH wc;obtain⟨L5,hL5⟩:=zG (hidL a lt p i:List Ev);rw[hL5]at HM5 HO5 HUN;have HB0:Hid (∀W,Below w5.heap.size w5 W->Below w.heap.size w W):=zh (fun W hb=>HBW5.o.trans (hb.mono HBW5.o.size))
 have HQC:Hid (∀W,Below w5.heap.size w5 W->World.cell? W ⟨w.heap.size,1,none⟩=some (.string p)/\World.cell? W ⟨w.heap.size,2,none⟩=some (.string i)/\World.cell? W ⟨w.heap.size,3,none⟩=some (.int .i64 now)):=zh (fun W hb=>by
  have k:Blk W w.heap.size 87 (qArr q p i now):=(hb.block _ HQ5.o.lt).trans HQ5.o;exact⟨k.cell 1,k.cell 2,k.cell 3⟩)
 have HCA:Hid (∀W,Below w5.heap.size w5 W->Calls Tryz.prog 67 #[.pointer (some ⟨wb,0,none⟩)] W fun e w'=>e = .returned (.pointer (some ⟨ct,0,none⟩))/\W=w'):=zh (fun W hb=>Zcy (HW.o.below (HB0.o W hb)))
 have HAT:Hid (∀W,Below w5.heap.size w5 W->Calls Tryz.prog 68 #[.pointer (some ⟨ct,0,none⟩),.string i,.int .i64 now] W fun e w'=>e = .returned (.tuple #[.agg #[.string X.name,.string X.maker,.string X.tags,.int .i64 X.stock,.int .i64 X.price,.int .i64 X.born,.bool X.listed],.bool ok])/\Below W.heap.size W w'):=zh (fun W hb=>by
  obtain⟨F,hF⟩:=(HW.o.below (HB0.o W hb)).cat;have hle:=HLE.o;have htl:=Zdo E;have:=Ct.Zj9 ct F (thgs E) i now W hF (by omega) (by omega);unfold Ct.toldP Ct.itA at this;rw[HX.o.1,HX.o.2]at this;exact this)
 clear hL5 x1 x2 HQ3 HBW3;go_upto_region 5 with fail;go_cut [7] (fun v wx=>∃gb,v = .pointer (some ⟨gb,0,none⟩)/\Hid (Blk wx gb 95 #[.string X.name,.string X.maker,.string X.tags,.int .i64 X.stock,.int .i64 X.price,.int .i64 X.born,.bool X.listed])/\Hid (w5.heap.size<=gb)/\Hid (Below w5.heap.size w5 wx))
 case first=>
  refine Zgw (fun W=>Below w5.heap.size w5 W) (.take 0 (.take 2 (.take 3 (.take 4 (.take 5 (.fork 1 (.fork 6 (.take 7 (.take 8 (.take 9 (.turn 10 (.turn 11 (.take 12 .done)))))) 10 (.turn 6 (.take 7 (.take 8 (.take 9 (.turn 11 (.take 12 .done))))))) 10 (.turn 1 (.turn 6 (.take 7 (.take 8 (.take 9 (.turn 11 (.take 12 .done))))))))))))) (by kernel_rfl) (by kernel_rfl) (below_drew (Below.refl _ _)) ?_;simp only[planTL,xq4,xq5];obtain⟨wd,hwd⟩:=zG (w5.drew);have HBD:=zD hwd;rw[hwd];clear hwd
  repeat ((first|(refine Zal _ (by rfl) (fun W hW=>by (obtain⟨x1,x2,x3⟩:=HQC.o W hW;go_simp;try with_reducible rfl)) ?_)|(refine planT_off (by rfl) ?_));simp only[Act.put,xq1,xq2,xq3])
  refine Zcc ?_ ?_
  ·have HCv1:=zh (HCA.o wd HBD.o);go_wp2_with fail;refine HCv1.o.mono ?_;rintro e v1 ⟨rfl,rfl⟩;clear HCv1;go_wp2_with fail;refine⟨HBD.o,?_⟩
   repeat ((first|(refine Zal _ (by rfl) (fun W hW=>by (obtain⟨x1,x2,x3⟩:=HQC.o W hW;go_simp;try with_reducible rfl)) ?_)|(refine planT_off (by rfl) ?_));simp only[Act.put,xq1,xq2,xq3])
   refine Zcc ?_ ?_
   ·have HCv2:=zh (HAT.o wd HBD.o);go_wp2_with fail;refine HCv2.o.mono ?_;rintro e v2 ⟨rfl,hbv2⟩;have HEv2:=zT HBD hbv2;clear hbv2 HCv2;go_wp2_with fail;refine⟨HEv2.o,?_⟩
    repeat ((first|(refine Zal _ (by rfl) (fun W hW=>by (obtain⟨x1,x2,x3⟩:=HQC.o W hW;go_simp;try with_reducible rfl)) ?_)|(refine planT_off (by rfl) ?_));simp only[Act.put,xq1,xq2,xq3])
    refine Zap ?_;obtain⟨gv3,hgv3⟩:=zG (v2.heap.size);obtain⟨v3,hav3⟩:=zG (v2.alloc (.cells #[.string ⟨#[]⟩,.string ⟨#[]⟩,.string ⟨#[]⟩,.int .i64 0,.int .i64 0,.int .i64 0,.bool false] 95));have HXv3:Hid (Blk v3 gv3 95 #[.string ⟨#[]⟩,.string ⟨#[]⟩,.string ⟨#[]⟩,.int .i64 0,.int .i64 0,.int .i64 0,.bool false]):=zh (by rw[<-hav3,<-hgv3];exact Blk.new _ _ _);have HEv3:Hid (Below w5.heap.size w5 v3):=zh (by rw[<-hav3];exact HEv2.o.alloc HEv2.o.size _);have HGv3:Hid (w5.heap.size<=gv3):=zh (by rw[<-hgv3];exact HEv2.o.size);go_wp2_with fail;try rw[hgv3]
    try rw[hav3]
    clear hgv3 hav3;refine⟨HEv3.o,?_⟩
    repeat ((first|(refine Zal _ (by rfl) (fun W hW=>by (obtain⟨x1,x2,x3⟩:=HQC.o W hW;go_simp;try with_reducible rfl)) ?_)|(refine planT_off (by rfl) ?_));simp only[Act.put,xq1,xq2,xq3])
    refine Zap ?_;refine Zad v3 rfl 95 _ _ rfl 0 #[.string X.name,.string X.maker,.string X.tags,.int .i64 X.stock,.int .i64 X.price,.int .i64 X.born,.bool X.listed] rfl rfl HXv3.o (by show 0+7<=7;omega) Zcq (by simp[Value.oneCell']) ?_;intro v4 hbv4 hkv4 hzv4;simp only[putA,xq1,xq2,xq3]at hbv4;have HXv4:Hid (Blk v4 gv3 95 #[.string X.name,.string X.maker,.string X.tags,.int .i64 X.stock,.int .i64 X.price,.int .i64 X.born,.bool X.listed]):=zh hbv4;have HEv4:Hid (Below w5.heap.size w5 v4):=zh (HEv3.o.trans (hkv4.toBelow (fun i hi=>by rw[hi];exact HGv3.o) HEv3.o.size));clear hbv4 hkv4 hzv4;refine⟨HEv4.o,?_⟩
    repeat ((first|(refine Zal _ (by rfl) (fun W hW=>by (obtain⟨x1,x2,x3⟩:=HQC.o W hW;go_simp;try with_reducible rfl)) ?_)|(refine planT_off (by rfl) ?_));simp only[Act.put,xq1,xq2,xq3])
    refine Zbf ?_;go_wp2_with fail;go_meet;exact⟨gv3,rfl,HXv4,HGv3,HEv4⟩
   ·obtain⟨gv5,hgv5⟩:=zG (wd.heap.size);obtain⟨v5,hav5⟩:=zG (wd.alloc (.cells #[.string ⟨#[]⟩,.string ⟨#[]⟩,.string ⟨#[]⟩,.int .i64 0,.int .i64 0,.int .i64 0,.bool false] 95));have HXv5:Hid (Blk v5 gv5 95 #[.string ⟨#[]⟩,.string ⟨#[]⟩,.string ⟨#[]⟩,.int .i64 0,.int .i64 0,.int .i64 0,.bool false]):=zh (by rw[<-hav5,<-hgv5];exact Blk.new _ _ _);have HEv5:Hid (Below w5.heap.size w5 v5):=zh (by rw[<-hav5];exact HBD.o.alloc HBD.o.size _);have HGv5:Hid (w5.heap.size<=gv5):=zh (by rw[<-hgv5];exact HBD.o.size);go_wp2_with fail;try rw[hgv5]
    try rw[hav5]
    clear hgv5 hav5;refine⟨HEv5.o,?_⟩
    repeat ((first|(refine Zal _ (by rfl) (fun W hW=>by (obtain⟨x1,x2,x3⟩:=HQC.o W hW;go_simp;try with_reducible rfl)) ?_)|(refine planT_off (by rfl) ?_));simp only[Act.put,xq1,xq2,xq3])
    refine Zap ?_;have HCv6:=zh (HAT.o v5 HEv5.o);go_wp2_with fail;refine HCv6.o.mono ?_;rintro e v6 ⟨rfl,hbv6⟩;have HEv6:=zT HEv5 hbv6;have HXv6:Hid (Blk v6 gv5 95 #[.string ⟨#[]⟩,.string ⟨#[]⟩,.string ⟨#[]⟩,.int .i64 0,.int .i64 0,.int .i64 0,.bool false]):=zX HXv5 hbv6;clear hbv6 HCv6;go_wp2_with fail;refine⟨HEv6.o,?_⟩
    repeat ((first|(refine Zal _ (by rfl) (fun W hW=>by (obtain⟨x1,x2,x3⟩:=HQC.o W hW;go_simp;try with_reducible rfl)) ?_)|(refine planT_off (by rfl) ?_));simp only[Act.put,xq1,xq2,xq3])
    refine Zap ?_;refine Zad v6 rfl 95 _ _ rfl 0 #[.string X.name,.string X.maker,.string X.tags,.int .i64 X.stock,.int .i64 X.price,.int .i64 X.born,.bool X.listed] rfl rfl HXv6.o (by show 0+7<=7;omega) Zcq (by simp[Value.oneCell']) ?_;intro v7 hbv7 hkv7 hzv7;simp only[putA,xq1,xq2,xq3]at hbv7;have HXv7:Hid (Blk v7 gv5 95 #[.string X.name,.string X.maker,.string X.tags,.int .i64 X.stock,.int .i64 X.price,.int .i64 X.born,.bool X.listed]):=zh hbv7;have HEv7:Hid (Below w5.heap.size w5 v7):=zh (HEv6.o.trans (hkv7.toBelow (fun i hi=>by rw[hi];exact HGv5.o) HEv6.o.size));clear hbv7 hkv7 hzv7;refine⟨HEv7.o,?_⟩
    repeat ((first|(refine Zal _ (by rfl) (fun W hW=>by (obtain⟨x1,x2,x3⟩:=HQC.o W hW;go_simp;try with_reducible rfl)) ?_)|(refine planT_off (by rfl) ?_));simp only[Act.put,xq1,xq2,xq3])
    refine Zbf ?_;go_wp2_with fail;go_meet;exact⟨gv5,rfl,HXv7,HGv5,HEv7⟩
  ·obtain⟨gv8,hgv8⟩:=zG (wd.heap.size);obtain⟨v8,hav8⟩:=zG (wd.alloc (.cells #[.string ⟨#[]⟩,.string ⟨#[]⟩,.string ⟨#[]⟩,.int .i64 0,.int .i64 0,.int .i64 0,.bool false] 95));have HXv8:Hid (Blk v8 gv8 95 #[.string ⟨#[]⟩,.string ⟨#[]⟩,.string ⟨#[]⟩,.int .i64 0,.int .i64 0,.int .i64 0,.bool false]):=zh (by rw[<-hav8,<-hgv8];exact Blk.new _ _ _);have HEv8:Hid (Below w5.heap.size w5 v8):=zh (by rw[<-hav8];exact HBD.o.alloc HBD.o.size _);have HGv8:Hid (w5.heap.size<=gv8):=zh (by rw[<-hgv8];exact HBD.o.size);go_wp2_with fail;try rw[hgv8]
   try rw[hav8]
   clear hgv8 hav8;refine⟨HEv8.o,?_⟩
   repeat ((first|(refine Zal _ (by rfl) (fun W hW=>by (obtain⟨x1,x2,x3⟩:=HQC.o W hW;go_simp;try with_reducible rfl)) ?_)|(refine planT_off (by rfl) ?_));simp only[Act.put,xq1,xq2,xq3])
   refine Zap ?_;have HCv9:=zh (HCA.o v8 HEv8.o);go_wp2_with fail;refine HCv9.o.mono ?_;rintro e v9 ⟨rfl,rfl⟩;clear HCv9;go_wp2_with fail;refine⟨HEv8.o,?_⟩
   repeat ((first|(refine Zal _ (by rfl) (fun W hW=>by (obtain⟨x1,x2,x3⟩:=HQC.o W hW;go_simp;try with_reducible rfl)) ?_)|(refine planT_off (by rfl) ?_));simp only[Act.put,xq1,xq2,xq3])
   refine Zap ?_;have HCv10:=zh (HAT.o v8 HEv8.o);go_wp2_with fail;refine HCv10.o.mono ?_;rintro e v10 ⟨rfl,hbv10⟩;have HEv10:=zT HEv8 hbv10;have HXv10:Hid (Blk v10 gv8 95 #[.string ⟨#[]⟩,.string ⟨#[]⟩,.string ⟨#[]⟩,.int .i64 0,.int .i64 0,.int .i64 0,.bool false]):=zX HXv8 hbv10;clear hbv10 HCv10;go_wp2_with fail;refine⟨HEv10.o,?_⟩
   repeat ((first|(refine Zal _ (by rfl) (fun W hW=>by (obtain⟨x1,x2,x3⟩:=HQC.o W hW;go_simp;try with_reducible rfl)) ?_)|(refine planT_off (by rfl) ?_));simp only[Act.put,xq1,xq2,xq3])
   refine Zap ?_;refine Zad v10 rfl 95 _ _ rfl 0 #[.string X.name,.string X.maker,.string X.tags,.int .i64 X.stock,.int .i64 X.price,.int .i64 X.born,.bool X.listed] rfl rfl HXv10.o (by show 0+7<=7;omega) Zcq (by simp[Value.oneCell']) ?_;intro v11 hbv11 hkv11 hzv11;simp only[putA,xq1,xq2,xq3]at hbv11;have HXv11:Hid (Blk v11 gv8 95 #[.string X.name,.string X.maker,.string X.tags,.int .i64 X.stock,.int .i64 X.price,.int .i64 X.born,.bool X.listed]):=zh hbv11;have HEv11:Hid (Below w5.heap.size w5 v11):=zh (HEv10.o.trans (hkv11.toBelow (fun i hi=>by rw[hi];exact HGv8.o) HEv10.o.size));clear hbv11 hkv11 hzv11;refine⟨HEv11.o,?_⟩
   repeat ((first|(refine Zal _ (by rfl) (fun W hW=>by (obtain⟨x1,x2,x3⟩:=HQC.o W hW;go_simp;try with_reducible rfl)) ?_)|(refine planT_off (by rfl) ?_));simp only[Act.put,xq1,xq2,xq3])
   refine Zbf ?_;go_wp2_with fail;go_meet;exact⟨gv8,rfl,HXv11,HGv8,HEv11⟩
 case rest=>
 obtain⟨gb,rfl,HX6,HGB,HB6⟩:=hcut;obtain⟨w6,rfl⟩:=zH wc;have HBW6:=zh (HB0.o w6 HB6.o);have HO6:=zh (Ru.Za9 HO5.o HB6.o);have HQ6:Hid (Blk w6 w.heap.size 87 (qArr q p i now)):=zh ((HB6.o.block _ HQ5.o.lt).trans HQ5.o)
 have HQC:Hid (∀W,Below w6.heap.size w6 W->World.cell? W ⟨w.heap.size,1,none⟩=some (.string p)/\World.cell? W ⟨w.heap.size,2,none⟩=some (.string i)/\World.cell? W ⟨w.heap.size,3,none⟩=some (.int .i64 now)):=zh (fun W hb=>by
  have k:Blk W w.heap.size 87 (qArr q p i now):=(hb.block _ HQ6.o.lt).trans HQ6.o;exact⟨k.cell 1,k.cell 2,k.cell 3⟩)
 have HIC:Hid (∀W,Below w6.heap.size w6 W->World.cell? W ⟨gb,1,none⟩=some (.string X.maker)):=zh (fun W hb=>by
  have k:Blk W gb 95 #[.string X.name,.string X.maker,.string X.tags,.int .i64 X.stock,.int .i64 X.price,.int .i64 X.born,.bool X.listed]:=(hb.block _ HX6.o.lt).trans HX6.o;exact k.cell 1)
 have HB06:Hid (∀W,Below w6.heap.size w6 W->Below w.heap.size w W):=zh (fun W hb=>HBW6.o.trans (hb.mono HBW6.o.size));clear HCA HAT HB0 HB6 HQ5 HO5 HBW5;go_upto_region 6 with fail;refine Zar (fun W=>Below w6.heap.size w6 W) [(0,false),(2,false),(3,false),(5,false),(6,false),(1,true),(4,true),(7,true)] (by kernel_rfl) (by kernel_rfl) (below_drew (Below.refl _ _)) ?_;simp only[planL,xq4,xq5];obtain⟨wd,hwd⟩:=zG (w6.drew);have HBD:=zD hwd;rw[hwd];clear hwd
 repeat ((first|(refine Zaf _ (by rfl) (fun W hW=>by (obtain⟨x1,x2,x3⟩:=HQC.o W hW;have k1:=HIC.o W hW;go_simp;try with_reducible rfl)) ?_)|(refine Zac (by rfl) ?_));simp only[Act.put,xq1,xq2,xq3])
 refine Zae ?_;have HC:=zh (HCR.o wd (HB06.o wd HBD.o));go_wp2_with fail;refine HC.o.mono ?_;rintro e w7 ⟨rfl,rfl⟩;clear HC;go_wp2_with fail;refine⟨HBD.o,?_⟩
 repeat ((first|(refine Zaf _ (by rfl) (fun W hW=>by (obtain⟨x1,x2,x3⟩:=HQC.o W hW;have k1:=HIC.o W hW;go_simp;try with_reducible rfl)) ?_)|(refine Zac (by rfl) ?_));simp only[Act.put,xq1,xq2,xq3])
 refine Zae ?_;have HC:=zh (HMU.o wd (HB06.o wd HBD.o));go_wp2_with fail;refine HC.o.mono ?_;rintro e w7 ⟨A7,c7,ks,rfl,h1,h2,h3,h4⟩;have HB7:=zT HBD h4;have HCT:=zh (contains_any w7 w7.heap.size A7 ks ks.length c7 X.maker rfl h2 (by omega));rw[h1]at HCT;clear h1 h2 h3 h4 HC HMU;go_wp2_with fail;refine⟨HB7.o,?_⟩
 repeat ((first|(refine Zaf _ (by rfl) (fun W hW=>by (obtain⟨x1,x2,x3⟩:=HQC.o W hW;have k1:=HIC.o W hW;go_simp;try with_reducible rfl)) ?_)|(refine Zac (by rfl) ?_));simp only[Act.put,xq1,xq2,xq3])
 refine Zae ?_;go_wp2_with fail;refine HCT.o.mono ?_;rintro e w8 ⟨rfl,rfl⟩;clear HCT;go_wp2_with fail;refine⟨HB7.o,?_⟩;refine Zah ?_;obtain⟨x1,x2,x3⟩:=HQC.o w7 HB7.o;have k1:=HIC.o w7 HB7.o;have HO7:=zh (Ru.Za9 HO6.o HB7.o);have HBW7:=zh (HB06.o w7 HB7.o);clear HQC HIC HB06;cases mu with
 | false=>
  go_wp2_with fail;go_ret;rw[HUN.o];exact⟨A5,m5,c5,rfl,by simpa [mutL] using HM5.o,by simpa [mutL] using Zcz HO7.o (Nat.le_succ _),HBW7.o⟩
 | true=>
  have HR9:Hid (RowIn (w7.alloc (.cells (evArr ⟨⟨#[]⟩,0,lt,10,p,⟨#[]⟩,0,X.maker⟩) 59)) (w7.heap.size+1) 8 (some ⟨w7.heap.size,0,none⟩) 1 (evC ⟨⟨#[]⟩,0,lt,10,p,⟨#[]⟩,0,X.maker⟩)):=zh (Zhm w7 _ _);unfold evArr at HR9;have hz3:w.heap.size+1<=w7.heap.size+1:=by have:=HBW7.o.size;omega
  go_wp2_with (first
   | (at_builtin;refine Zaa _ rfl _ _ 23 rfl (w.heap.size+1) 59 i0 _ 8 96 Tryz.underlying23 hi0 hy0 hy1 hy2 rfl (by omega) (.slice A5 m5 c5) m5 _ rfl (HO7.o.alloc _) (w7.heap.size+1) (some ⟨w7.heap.size,0,none⟩) 1 1 (evC ⟨⟨#[]⟩,0,lt,10,p,⟨#[]⟩,0,X.maker⟩) rfl HR9.o (fun h=>by cases h) (fun u hu=>Zb1 [⟨⟨#[]⟩,0,lt,10,p,⟨#[]⟩,0,X.maker⟩] u (by simpa using hu)) (by unfold maxLen;omega) (by omega) (by simp;omega) ?_;intro v9 w9 ho9 hg9 hv9)
   | fail)
  obtain⟨A9,c9,hr9⟩:=Zbh ho9;subst hr9;have HG9:=zh hg9;have HO9:=zh ho9;clear hg9 ho9 hv9;go_wp2_with fail;go_ret;rw[HUN.o];refine⟨A9,m5+1,c9,rfl,by simp[mutL,HM5.o],?_,(HBW7.o.alloc HBW7.o.size _).grown HG9.o (HBW7.o.alloc HBW7.o.size _).size (fun j hj=>Nat.le_trans (Nat.le_succ _) (HO7.o.lt _ hj).1)⟩;have h:=Zcz HO9.o (Nat.le_succ w.heap.size);rw[List.flatMap_append];simpa [mutL] using h
end Go.Proofs.YtnpfaajhgghpgaaGreatDoor
