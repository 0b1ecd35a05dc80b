/- A part of the joined base. -/
import Derived.Test.YtphmhbcimhlcjaaGreatDoorU40
set_option linter.unusedVariables false
set_option maxHeartbeats 16000000
set_option maxRecDepth 100000
namespace Go.Proofs.YtphmhbcimhlcjaaGreatDoor
open Go.Shelf Go.RowKit Go.Maps
open Ru (digW Zak)
open Ct (It St it0 st0 atP takesB catB stepSt rowOf uptoP ofN rowStep itA toldP Rising)
def mutM (a:Bool)(lt:Int)(p m:ByteArray):List Ev:=if a then [⟨⟨#[]⟩,0,lt,10,p,⟨#[]⟩,0,m⟩] else []
theorem nS_dig (k:Nat):(⟨#[110,45]⟩++digW k:ByteArray)=nS k:=rfl
theorem cure_1 {E:List Ev}{p i:ByteArray}{now crowd:Int}{m t:ByteArray}{pr:Int}(h:((atP (thgs E) i now).getD it0).maker=m)(h2:((atP (thgs E) i now).getD it0).tags=t)(h3:((atP (thgs E) i now).getD it0).price=pr):cureL E 1 p i now crowd = [if m=⟨#[]⟩ then ⟨⟨#[]⟩,0,now,11,⟨#[]⟩,i,0,noneT⟩ else ⟨⟨#[]⟩,0,now,11,⟨#[]⟩,i,pr,m++⟨#[59]⟩++t⟩]:=by
 unfold cureL listE mkrP;rw[if_pos rfl,h,h2,h3]
theorem cure_2 {E:List Ev}{p i:ByteArray}{now crowd:Int}:cureL E 2 p i now crowd = [⟨⟨#[]⟩,0,now,12,⟨#[]⟩,i,1,⟨#[]⟩⟩]:=rfl
theorem cure_3 {E:List Ev}{p i:ByteArray}{now crowd:Int}{m:ByteArray}{a mu:Bool}{lt:Int}(h:((atP (thgs E) i now).getD it0).maker=m)(ha:(hidO (rowsW E) p i).getD false=a)(hm:decide (mutO (rowsW E) p m=some true)=mu)(hl:lateP E now=lt):cureL E 3 p i now crowd=hidL a lt p i++mutM mu lt p m:=by
 show unhideL E p i now=_;unfold unhideL mkrP hidL mutM;rw[h,ha,hl,<-hm];simp only[decide_eq_true_eq]
theorem cure_5 {E:List Ev}{p i:ByteArray}{now crowd nd:Int}{fn:Nat}{lt:Int}(hf:fansN (rowsW E) i=fn)(hn:crowd - (fn:Int)=nd)(hl:lateP E now=lt)(hb:nd<=1000):cureL E 5 p i now crowd=(newN E nd.toNat).map (fun k=>⟨⟨#[]⟩,0,lt,1,nS k,i,0,⟨#[]⟩⟩):=by
 show openL E i now crowd=_;unfold openL;rw[hf,hn,if_neg (by omega),<-hl]
 rfl
theorem cure_no {E:List Ev}{y:Nat}{p i:ByteArray}{now crowd:Int}(h:y=0\/y=4\/y=6):cureL E y p i now crowd = []:=by
 rcases h with rfl|rfl|rfl <;> rfl
def EvsR (w:World)(cs:List Ev)(e:Ending)(w':World):Prop:=∃A m c,e = .returned (.slice A m c)/\cs.length=m/\EvsAt w' w'.heap.size A cs/\Below w.heap.size w w'
theorem revents_any (w:World)(B:Nat)(A:Option Addr)(E:List Ev)(n cp:Nat)(hn:E.length=n)(hl:EvsAt w B A E)(hB:B<=w.heap.size)(hb:n<=1000)(hnc:n<=cp)(hs:SortedE E)(hok:∀e∈E,EvOk e)(c:Cfg)(hcr:0<=c.crowd/\c.crowd<=12)(y:Nat)(hy:y<=6)(p i:ByteArray)(now:Int)(hp:p.size<=300)(hi:i.size<=300) :
  Calls Tryz.prog 15 #[cfgA c,.slice A n cp,.int .i64 (y:Int),.string p,.string i,.int .i64 now] w (EvsR w (cureP E y p i now c.crowd)):=by
 have HN:=zh hn;have HBB:=zh hB;have HE:Hid (∀W,Below w.heap.size w W->EvsAt W B A E):=zh (fun W hb=>hl.below (hb.mono hB));have HB0:Hid (∀W,Below w.heap.size w W->B<=W.heap.size):=zh (fun W hb=>Nat.le_trans hB hb.size);have HMAY:Hid (∀e∈E,mayB e=true):=zh (fun e he=>(hok e he).1);have HGR:=zh (Zdx E HMAY.o).1;have HTL:Hid ((thgs E).length<=n):=zh (by rw[<-hn];exact Zdo E);have HCL:Hid ((crE E).length<=n):=zh (by rw[<-hn];exact List.length_filter_le _ _);have HRST:=zh (rst_few hs hok i now);have HRX:=zh (rx_at (sorted_rise hs) i now);have HOKT:Hid (∀e∈thgs E,EvOk e):=zh (fun e he=>hok e (Zax.1 he).1);have HNU:Hid (∀W,Below w.heap.size w W->Calls Tryz.prog 47 #[.slice A n cp] W fun e w'=>e = .returned (.int .i64 (grtN E))/\Below W.heap.size W w'):=zh (fun W hb=>rnumber_any W B A E n cp hn (HE.o W hb) (HB0.o W hb) (by omega));have HTH:Hid (∀W,Below w.heap.size w W->Calls Tryz.prog 49 #[.slice A n cp] W fun e w'=>∃A' c' m,e = .returned (.slice A' m c')/\(thgs E).length=m/\w'.ownsRow W.heap.size 66 8 (.slice A' m c') m ((thgs E).flatMap evC)/\Below W.heap.size W w'):=zh (fun W hb=>rthings_any W B A E n cp hn (HE.o W hb) (HB0.o W hb) (by omega));have HRO:Hid (∀W,Below w.heap.size w W->Calls Tryz.prog 50 #[.slice A n cp] W fun e w'=>∃A' c' m,∃xl:List Rd,e = .returned (.slice A' m c')/\xl.length=m/\xl.map (·.e)=crE E/\w'.ownsRow W.heap.size 158 9 (.slice A' m c') m (xl.flatMap rdC)/\Below W.heap.size W w'):=zh (fun W hb=>rows_any W B A E n cp hn (HE.o W hb) (HB0.o W hb) (by omega) hnc hs hok);have HLT:Hid (∀W,Below w.heap.size w W->Calls Tryz.prog 52 #[.slice A n cp,.int .i64 now] W fun e w'=>e = .returned (.int .i64 (lateP E now))/\w'=W):=zh (fun W hb=>rlate_any W B A E n cp now hn (HE.o W hb) (by omega));have HKN:Hid (∀W s,Below w.heap.size w W->Calls Tryz.prog 55 #[.slice A n cp,.string s] W fun e w'=>e = .returned (.bool (knownB E s))/\w'=W):=zh (fun W s hb=>rknown_any W B A E n cp s hn (HE.o W hb) (by omega));have HSRC:Hid (∀W,Calls Tryz.prog 56 #[] W fun e w'=>e = .returned (.string zzS)/\w'=W):=zh source_any;have HCR:=zh hcr;have HSZ:Hid (p.size<=300/\i.size<=300):=zh ⟨hp,hi⟩;obtain⟨i0,hi0,hy0,hy1,hy2⟩:=info_parts Zdd;obtain⟨w1,hw1⟩:=zG (w.alloc (.cells (cfgArr c) 24));have HX1:Hid (Blk w1 w.heap.size 24 (cfgArr c)):=zB hw1;have HB1:=zA hw1;obtain⟨b0,hb0⟩:=zG (w1.heap.size);have HZB:Hid (w.heap.size<b0):=zh (by rw[<-hb0];exact HX1.o.lt);obtain⟨w2,hw2⟩:=zG (w1.alloc (.cells #[] 66));have HO2:Hid (w2.ownsRow b0 66 8 (.slice (some ⟨b0,0,none⟩) 0 0) 0 []):=zh (by rw[<-hw2,<-hb0];exact Zhl w1 _ _);have HX2:Hid (Blk w2 w.heap.size 24 (cfgArr c)):=zh (by rw[<-hw2];exact HX1.o.alloc _);have HB2:Hid (Below w.heap.size w w2):=zh (by rw[<-hw2];exact HB1.o.alloc HB1.o.size _);have HZ2:Hid (b0<w2.heap.size):=zh (by rw[<-hw2,<-hb0];simp);unfold cfgA;unfold cfgArr at hw1;obtain⟨g0,hg0⟩:=zG (grtN E);have HG0:=zh hg0;obtain⟨⟨q0,q1,q2,q3,q4,q5,q6⟩,hqx⟩:∃x,rx (rst (thgs E) i now)=x:=⟨_,rfl⟩
 obtain⟨qb,hqb⟩:=zG ((rst (thgs E) i now).isSome)
 have HAT:Hid (∀W A' m c',(thgs E).length=m->EvsAt W W.heap.size A' (thgs E)->Calls Tryz.prog 48 #[.slice A' m c',.string i,.int .i64 now] W fun e w'=>e = .returned (.tuple #[.agg #[.string q0,.string q1,.string q2,.int .i64 q3,.int .i64 q4,.int .i64 q5,.bool q6],.bool qb])/\Below W.heap.size W w'):=zh (fun W A' m c' hm ha=>by
  have h:=refat_any W W.heap.size A' (thgs E) m c' i now hm ha (zr _) (by have:=HTL.o;omega) (fun e he=>(HOKT.o e he).sh) thgs_kind;unfold rtoldP itA at h;rw[hqx,hqb]at h;exact h)
 rw[hg0]at HNU HGR;rw[hqx]at HRST HRX;have HRF:Hid (q2.size<=300/\q1.size<=300):=zh HRST.o;have HXM:Hid (((atP (thgs E) i now).getD it0).maker=q1/\((atP (thgs E) i now).getD it0).tags=q2/\((atP (thgs E) i now).getD it0).price=q4):=zh (by rw[<-HRX.o];exact⟨rfl,rfl,rfl⟩);obtain⟨cs,hcs⟩:=zG (cureL E y p i now c.crowd);have HCS:=zh hcs;have HCP:Hid (cureP E y p i now c.crowd=cured E cs):=zh (by rw[<-hcs];rfl);have HYY:=zh hy;clear hn hl hB hnc hs hok hcr hp hi hg0 hqx hqb hcs hy HRST HRX;go_enter Tryz.func15,Tryz.ntmps15;go_upto_region 2 with fail;try rw[hw1]
 try rw[hb0]
 try rw[hw2]
 clear hw1 hw2;have HC:=zh (HNU.o w2 HB2.o);go_wp2_with fail;refine HC.o.mono ?_;rintro e w3 ⟨rfl,hb3⟩;have HB3:Hid (Below w2.heap.size w2 w3):=zh hb3;have HW3:=zT HB2 hb3;clear hb3 HC HNU;have HC:=zh (HTH.o w3 HW3.o);go_wp2_with fail;refine HC.o.mono ?_;rintro e w4 ⟨A4,c4,m4,rfl,hl4,ho4,hb4⟩;have HB4:=zT HB3 hb4;have HC2:=zh (HAT.o w4 A4 m4 c4 hl4 (by unfold EvsAt;rw[hl4];exact RowIn.of_own ho4));clear hl4 ho4 hb4 HC HTH HAT;go_wp2_with fail;refine HC2.o.mono ?_;rintro e w5 ⟨rfl,hb5⟩;have HB5:=zT HB4 hb5;clear hb5 HC2
 go_upto_region 4 with (first
  | (refine Zad _ rfl 110 (.tmp 15) (.tmp 32) rfl 0 #[.string q0,.string q1,.string q2,.int .i64 q3,.int .i64 q4,.int .i64 q5,.bool q6] rfl rfl (Blk.new _ _ _) (by show 0+7<=7;omega) rit_size (by simp[Value.oneCell']) ?_;intro w6 hb6 hk6 hs6)
  | fail)
 (try simp only[Exit.inBlock,Exit.then])
 simp only[putA,xq1,xq2,xq3]at hb6;have HB56:Hid (Below w5.heap.size w5 w6):=zh (((Below.refl _ _).alloc (zr _) _).trans (hk6.toBelow (fun i hi=>by rw[hi];exact zr _) (by simp)));obtain⟨gb,hgb⟩:=zG (w5.heap.size);have HI6:Hid (Blk w6 gb 110 #[.string q0,.string q1,.string q2,.int .i64 q3,.int .i64 q4,.int .i64 q5,.bool q6]):=zh (by rw[<-hgb];exact hb6);have HB6:=zT HB5 HB56.o;have HGB:Hid (b0<gb):=zh (by have:=HB5.o.size;have:=HZ2.o;omega);try rw[hgb]
 clear hb6 hk6 hs6 hgb HB56;have HW6:=zT HB2 HB6.o;have HC:=zh (HRO.o w6 HW6.o);go_wp2_with fail;refine HC.o.mono ?_;rintro e w7 ⟨A7,c7,m7,xl,rfl,hl7,hx7,ho7,hb7⟩;have HB7:=zT HB6 hb7;have HW7:=zT HB2 HB7.o;have HI7:Hid (Blk w7 gb 110 #[.string q0,.string q1,.string q2,.int .i64 q3,.int .i64 q4,.int .i64 q5,.bool q6]):=zX HI6 hb7;have HX7:Hid (Blk w7 w.heap.size 24 (cfgArr c)):=zh ((HB7.o.block _ HX2.o.lt).trans HX2.o);have HO7:Hid (w7.ownsRow b0 66 8 (.slice (some ⟨b0,0,none⟩) 0 0) 0 []):=zh (Ru.Za9 HO2.o HB7.o)
 have HXL:Hid (xl.length=m7/\xl.map (·.e)=crE E/\m7<=1000):=zh ⟨hl7,hx7,by
  have h:=congrArg List.length hx7;rw[List.length_map]at h;have:=HCL.o;omega⟩
 have HRW:Hid (w7.ownsRow w6.heap.size 158 9 (.slice A7 m7 c7) m7 (xl.flatMap rdC)/\b0<w6.heap.size):=zh ⟨ho7,by have:=HB6.o.size;have:=HZ2.o;omega⟩
 have HKP:Hid (∀W,Kept (fun q=>q=b0) w7 W->(World.cell? W ⟨w.heap.size,5,none⟩=some (.int .i64 c.crowd)/\World.cell? W ⟨gb,1,none⟩=some (.string q1)/\World.cell? W ⟨gb,2,none⟩=some (.string q2)/\World.cell? W ⟨gb,4,none⟩=some (.int .i64 q4))/\Below w.heap.size w W/\RowIn W W.heap.size 9 A7 m7 (xl.flatMap rdC)):=zh (fun W hk=>by
  have h1:∀j,World.cell? W ⟨gb,j,none⟩=World.cell? w7 ⟨gb,j,none⟩:=fun j=>hk.cell (p:=⟨gb,j,none⟩) HI7.o.lt (by show ¬gb=b0;have:=HGB.o;omega);have h2:World.cell? W ⟨w.heap.size,5,none⟩=World.cell? w7 ⟨w.heap.size,5,none⟩:=hk.cell (p:=⟨w.heap.size,5,none⟩) HX7.o.lt (by show ¬w.heap.size=b0;have:=HZB.o;omega);refine⟨⟨h2.trans (HX7.o.cell 5),(h1 1).trans (HI7.o.cell 1),(h1 2).trans (HI7.o.cell 2),(h1 4).trans (HI7.o.cell 4)⟩,HW7.o.trans (hk.toBelow (fun i hi=>by rw[hi];exact Nat.le_of_lt HZB.o) HW7.o.size),?_⟩
  exact RowIn.of_own (owns_kept HRW.o.1 hk (fun g hg hq=>by
   have h3:=(Zd1 HRW.o.1 hg).1;have h4:=HRW.o.2;omega)))
 clear hl7 hx7 ho7 hb7 HC HRO;obtain⟨⟨x5,x1,x2,x4⟩,_,_⟩:=HKP.o w7 (Kept.refl _ _);go_upto_block 0 with fail;go_cut [13] (fun v wx=>∃A m c',v = .slice A m c'/\Hid (cs.length=m/\m<=12)/\Hid (wx.ownsRow b0 66 8 (.slice A m c') m (cs.flatMap evC))/\Hid (Below w.heap.size w wx))
 case first=>
  have hyy:=HYY.o;have hq2:=HRF.o.1;have hq1:=HRF.o.2;have hz7:b0<=w7.heap.size+1:=by have:=HB7.o.size;have:=HZ2.o;omega
  rcases (show y=1\/y=2\/y=3\/y=5\/(y=0\/y=4\/y=6) by omega) with hy1|hy1|hy1|hy1|hy1
  ·have d1:((y:Int) == 1)=true:=by rw[beq_iff_eq];omega
   have HCE:=zh (hy1 ▸ HCS.o);have HLS:=zh (HCE.o.symm.trans (cure_1 HXM.o.1 HXM.o.2.1 HXM.o.2.2));have hb59:(⟨#[59]⟩:ByteArray).size=1:=rfl;clear hy1 HCE
   go_wp2_with (first
    | (refine Zad _ rfl 66 (.tmp 18) (.tmp 49) rfl 0 #[.string ⟨#[]⟩,.int .i64 0,.int .i64 now,.int .i64 11,.string ⟨#[]⟩,.string i,.int .i64 q4,.string (q1++⟨#[59]⟩++q2)] rfl rfl (Blk.new _ _ _) (by show 0+8<=8;omega) ev_size8 (by simp[Value.oneCell']) ?_;intro v1 hbv hkv hsv;refine Hid.o ?_)
    | fail)
   refine zh ?_;simp only[putA,xq1,xq2,xq3]at hbv;have HBV:Hid (Below w7.heap.size w7 v1):=zh (((Below.refl _ _).alloc (zr _) _).trans (hkv.toBelow (fun i hi=>by rw[hi];exact zr _) (by simp)));obtain⟨eb,heb⟩:=zG (w7.heap.size);have HE1:Hid (Blk v1 eb 66 #[.string ⟨#[]⟩,.int .i64 0,.int .i64 now,.int .i64 11,.string ⟨#[]⟩,.string i,.int .i64 q4,.string (q1++⟨#[59]⟩++q2)]):=zh (by rw[<-heb];exact hbv);have HEB:Hid (b0<eb/\w.heap.size<=eb):=zh (by have:=HB7.o.size;have:=HZ2.o;have:=HZB.o;omega);try rw[heb]
   clear hbv hkv hsv heb;have HO1:Hid (v1.ownsRow b0 66 8 (.slice (some ⟨b0,0,none⟩) 0 0) 0 []):=zh (Ru.Za9 HO7.o HBV.o);have HW1:=zT HW7 HBV.o;obtain⟨⟨_,x1,_,_⟩,_,_⟩:=HKP.o v1 (below_kept HBV.o (zr _));by_cases hmk:q1=⟨#[]⟩
   ·have z1:q1.toList.isEmpty=true:=by rw[Zcj,decide_eq_true hmk]
    have HL1:Hid (cs = [⟨⟨#[]⟩,0,now,11,⟨#[]⟩,i,0,noneT⟩]):=zh (by rw[HLS.o,if_pos hmk]);obtain⟨-,-,-,-,-,-,e6,e7⟩:=zC8 HE1.o;have f6:=HE1.o.frozen 6;have f7:=HE1.o.frozen 7;clear hmk;go_upto_region 10 with fail;obtain⟨v2,hv2⟩:=zG ((v1.setCell ⟨eb,6,none⟩ (.int .i64 0)).setCell ⟨eb,7,none⟩ (.string noneT));have HE2:Hid (Blk v2 eb 66 #[.string ⟨#[]⟩,.int .i64 0,.int .i64 now,.int .i64 11,.string ⟨#[]⟩,.string i,.int .i64 0,.string noneT]):=zh (by rw[<-hv2];exact (HE1.o.set_ 6 _).set_ 7 _);have HW2:Hid (Below w.heap.size w v2):=zh (by rw[<-hv2];exact (HW1.o.setCell (p:=⟨eb,6,none⟩) HEB.o.2 _).setCell (p:=⟨eb,7,none⟩) HEB.o.2 _)
    have HO2b:Hid (v2.ownsRow b0 66 8 (.slice (some ⟨b0,0,none⟩) 0 0) 0 []):=zh (by
     rw[<-hv2];exact owns_kept HO1.o (((Kept.refl (fun q=>q=eb) v1).setCell (p:=⟨eb,6,none⟩) (Or.inl rfl) _).setCell (p:=⟨eb,7,none⟩) (Or.inl rfl) _) (fun g hg hq=>by cases hg;have h1:=HEB.o.1;have h2:b0=eb:=hq;omega))
    have HZV:Hid (b0<=v2.heap.size+1):=zh (by have:=HE2.o.lt;have:=HEB.o.1;omega);try unfold noneT at hv2
    try rw[hv2]
    clear hv2 e6 e7 f6 f7;obtain⟨e0,e1,e2,e3,e4,e5,e6,e7⟩:=zC8 HE2.o;have hzv:=HZV.o;have HR9:Hid (RowIn (v2.alloc (.cells (evArr ⟨⟨#[]⟩,0,now,11,⟨#[]⟩,i,0,noneT⟩) 66)) (v2.heap.size+1) 8 (some ⟨v2.heap.size,0,none⟩) 1 (evC ⟨⟨#[]⟩,0,now,11,⟨#[]⟩,i,0,noneT⟩)):=zh (Zhm v2 _ _);unfold evArr at HR9
    go_wp2_with (first
     | (at_builtin;refine Zaa _ rfl _ _ 22 rfl b0 66 i0 _ 8 96 Tryz.underlying22 hi0 hy0 hy1 hy2 rfl (by omega) (.slice (some ⟨b0,0,none⟩) 0 0) 0 _ rfl (HO2b.o.alloc _) (v2.heap.size+1) (some ⟨v2.heap.size,0,none⟩) 1 1 (evC ⟨⟨#[]⟩,0,now,11,⟨#[]⟩,i,0,noneT⟩) rfl HR9.o (fun h=>by cases h) (fun u hu=>Zb1 [⟨⟨#[]⟩,0,now,11,⟨#[]⟩,i,0,noneT⟩] u (by simpa using hu)) (by unfold maxLen;omega) (by omega) (by simp;omega) ?_;intro v9 w9 ho9 hg9 hv9)
     | fail)
    obtain⟨A9,c9,hr9⟩:=Zbh ho9;subst hr9;have HG9:=zh hg9;have HO9:=zh ho9;clear hg9 ho9 hv9;go_wp2_with fail;go_meet;refine⟨A9,1,c9,rfl,zh ?_,zh ?_,zh ((HW2.o.alloc HW2.o.size _).grown HG9.o (HW2.o.alloc HW2.o.size _).size (fun j hj=>by have:=(Zd1 HO2b.o hj).1;have:=HZB.o;omega))⟩
    ·rw[HL1.o];exact⟨rfl,by omega⟩
    ·rw[HL1.o];simpa using HO9.o
   ·have z1:q1.toList.isEmpty=false:=by rw[Zcj,decide_eq_false hmk]
    have HL1:Hid (cs = [⟨⟨#[]⟩,0,now,11,⟨#[]⟩,i,q4,q1++⟨#[59]⟩++q2⟩]):=zh (by rw[HLS.o,if_neg hmk]);have HZV:Hid (b0<=v1.heap.size+1):=zh (by have:=HE1.o.lt;have:=HEB.o.1;omega);clear hmk;obtain⟨e0,e1,e2,e3,e4,e5,e6,e7⟩:=zC8 HE1.o;have hzv:=HZV.o;have HR9:Hid (RowIn (v1.alloc (.cells (evArr ⟨⟨#[]⟩,0,now,11,⟨#[]⟩,i,q4,q1++⟨#[59]⟩++q2⟩) 66)) (v1.heap.size+1) 8 (some ⟨v1.heap.size,0,none⟩) 1 (evC ⟨⟨#[]⟩,0,now,11,⟨#[]⟩,i,q4,q1++⟨#[59]⟩++q2⟩)):=zh (Zhm v1 _ _);unfold evArr at HR9
    go_wp2_with (first
     | (at_builtin;refine Zaa _ rfl _ _ 22 rfl b0 66 i0 _ 8 96 Tryz.underlying22 hi0 hy0 hy1 hy2 rfl (by omega) (.slice (some ⟨b0,0,none⟩) 0 0) 0 _ rfl (HO1.o.alloc _) (v1.heap.size+1) (some ⟨v1.heap.size,0,none⟩) 1 1 (evC ⟨⟨#[]⟩,0,now,11,⟨#[]⟩,i,q4,q1++⟨#[59]⟩++q2⟩) rfl HR9.o (fun h=>by cases h) (fun u hu=>Zb1 [⟨⟨#[]⟩,0,now,11,⟨#[]⟩,i,q4,q1++⟨#[59]⟩++q2⟩] u (by simpa using hu)) (by unfold maxLen;omega) (by omega) (by simp;omega) ?_;intro v9 w9 ho9 hg9 hv9)
     | fail)
    obtain⟨A9,c9,hr9⟩:=Zbh ho9;subst hr9;have HG9:=zh hg9;have HO9:=zh ho9;clear hg9 ho9 hv9;go_wp2_with fail;go_meet;refine⟨A9,1,c9,rfl,zh ?_,zh ?_,zh ((HW1.o.alloc HW1.o.size _).grown HG9.o (HW1.o.alloc HW1.o.size _).size (fun j hj=>by have:=(Zd1 HO1.o hj).1;have:=HZB.o;omega))⟩
    ·rw[HL1.o];exact⟨rfl,by omega⟩
    ·rw[HL1.o];simpa using HO9.o
  ·have d1:((y:Int) == 1)=false:=by rw[beq_eq_false_iff_ne];omega
   have d2:((y:Int) == 2)=true:=by rw[beq_iff_eq];omega
   have HLS:=zh ((hy1 ▸ HCS.o:cureL E 2 p i now c.crowd=cs).symm.trans cure_2);clear hy1 x5 x1 x2 x4;have HR9:Hid (RowIn (w7.alloc (.cells (evArr ⟨⟨#[]⟩,0,now,12,⟨#[]⟩,i,1,⟨#[]⟩⟩) 66)) (w7.heap.size+1) 8 (some ⟨w7.heap.size,0,none⟩) 1 (evC ⟨⟨#[]⟩,0,now,12,⟨#[]⟩,i,1,⟨#[]⟩⟩)):=zh (Zhm w7 _ _);unfold evArr at HR9
   go_wp2_with (first
    | (at_builtin;refine Zaa _ rfl _ _ 22 rfl b0 66 i0 _ 8 96 Tryz.underlying22 hi0 hy0 hy1 hy2 rfl (by omega) (.slice (some ⟨b0,0,none⟩) 0 0) 0 _ rfl (HO7.o.alloc _) (w7.heap.size+1) (some ⟨w7.heap.size,0,none⟩) 1 1 (evC ⟨⟨#[]⟩,0,now,12,⟨#[]⟩,i,1,⟨#[]⟩⟩) rfl HR9.o (fun h=>by cases h) (fun u hu=>Zb1 [⟨⟨#[]⟩,0,now,12,⟨#[]⟩,i,1,⟨#[]⟩⟩] u (by simpa using hu)) (by unfold maxLen;omega) (by omega) (by simp;omega) ?_;intro v9 w9 ho9 hg9 hv9)
    | fail)
   obtain⟨A9,c9,hr9⟩:=Zbh ho9;subst hr9;have HG9:=zh hg9;have HO9:=zh ho9;clear hg9 ho9 hv9;go_wp2_with fail;go_meet;refine⟨A9,1,c9,rfl,zh ?_,zh ?_,zh ((HW7.o.alloc HW7.o.size _).grown HG9.o (HW7.o.alloc HW7.o.size _).size (fun j hj=>by have:=(Zd1 HO7.o hj).1;have:=HZB.o;omega))⟩
   ·rw[HLS.o];exact⟨rfl,by omega⟩
   ·rw[HLS.o];simpa using HO9.o
  ·have d1:((y:Int) == 1)=false:=by rw[beq_eq_false_iff_ne];omega
   have d2:((y:Int) == 2)=false:=by rw[beq_eq_false_iff_ne];omega
   have d3:((y:Int) == 3)=true:=by rw[beq_iff_eq];omega
   obtain⟨lt,hlt⟩:=zG (lateP E now);obtain⟨a,ha⟩:=zG ((hidO (rowsW E) p i).getD false);obtain⟨mu,hmu⟩:=zG (decide (mutO (rowsW E) p q1=some true));have HLS:=zh ((hy1 ▸ HCS.o:cureL E 3 p i now c.crowd=cs).symm.trans (cure_3 HXM.o.1 ha hmu hlt));have HA1:Hid (decide (lstK (ownR xl p) i ⟨#[]⟩ 5 6=5)=a):=zh (by rw[<-ha];exact last_hid HMAY.o HXL.o.2.1 p i);have HM1:Hid (decide (lstK (ownR xl p) ⟨#[]⟩ q1 9 10=9)=mu):=zh (by rw[<-hmu];exact last_mut HMAY.o HXL.o.2.1 p q1);rw[hlt]at HLT;have HLA:Hid (∀W i' t a b,Kept (fun q=>q=b0) w7 W->Calls Tryz.prog 51 #[.slice A7 m7 c7,.string p,.string i',.string t,.int .i64 a,.int .i64 b] W fun e w'=>e = .returned (.int .i64 (lstK (ownR xl p) i' t a b))/\Below W.heap.size W w'):=zh (fun W i' t a b hk=>last_any W W.heap.size A7 m7 c7 xl p i' t a b HXL.o.1 (HKP.o W hk).2.2 (zr _) HXL.o.2.2);obtain⟨ka,hka⟩:=zG (lstK (ownR xl p) i ⟨#[]⟩ 5 6);obtain⟨km,hkm⟩:=zG (lstK (ownR xl p) ⟨#[]⟩ q1 9 10);have HC:=zh (HLA.o w7 i ⟨#[]⟩ 5 6 (Kept.refl _ _));have HC2:=zh (fun W (hk:Kept (fun q=>q=b0) w7 W)=>HLA.o W ⟨#[]⟩ q1 9 10 hk);rw[hka]at HC HA1;rw[hkm]at HM1;simp only[hkm]at HC2;clear hy1 hlt ha hmu hka hkm x5 x1 x2 x4 HLA;go_wp2_with fail;refine HC.o.mono ?_;rintro e v1 ⟨rfl,hbv⟩;have HBV:Hid (Below w7.heap.size w7 v1):=zh hbv;have HO1:Hid (v1.ownsRow b0 66 8 (.slice (some ⟨b0,0,none⟩) 0 0) 0 []):=zh (Ru.Za9 HO7.o hbv);have HW1:=zT HW7 hbv;have HK1:Hid (Kept (fun q=>q=b0) w7 v1):=zh (below_kept hbv (zr _));have HZV:Hid (b0<=v1.heap.size+1):=zh (by have:=hbv.size;omega);have hzv:=HZV.o;clear hbv HC;go_upto_if 73 with fail;go_cut [13] (fun v wx=>∃A m c',v = .slice A m c'/\m<=1/\Hid ((hidL a lt p i).length=m)/\Hid (wx.ownsRow b0 66 8 (.slice A m c') m ((hidL a lt p i).flatMap evC))/\Hid (Kept (fun q=>q=b0) w7 wx))
   case first=>
    cases a with
    | false=>
     have dk:(ka == 5)=false:=by have h:=HA1.o;rw[beq_eq_false_iff_ne];exact of_decide_eq_false h
     go_wp2_with fail;go_meet;exact⟨_,0,0,rfl,by omega,zh rfl,HO1,HK1⟩
    | true=>
     have dk:(ka == 5)=true:=by have h:=HA1.o;rw[beq_iff_eq];exact of_decide_eq_true h
     have HCL1:=zh (HLT.o v1 HW1.o);go_wp2_with fail;refine HCL1.o.mono ?_;rintro e v2 ⟨rfl,hv⟩;obtain rfl:=hv.symm;clear HCL1;have HR9:Hid (RowIn (v1.alloc (.cells (evArr ⟨⟨#[]⟩,0,lt,6,p,i,0,⟨#[]⟩⟩) 66)) (v1.heap.size+1) 8 (some ⟨v1.heap.size,0,none⟩) 1 (evC ⟨⟨#[]⟩,0,lt,6,p,i,0,⟨#[]⟩⟩)):=zh (Zhm v1 _ _);unfold evArr at HR9
     go_wp2_with (first
      | (at_builtin;refine Zaa _ rfl _ _ 22 rfl b0 66 i0 _ 8 96 Tryz.underlying22 hi0 hy0 hy1 hy2 rfl (by omega) (.slice (some ⟨b0,0,none⟩) 0 0) 0 _ rfl (HO1.o.alloc _) (v1.heap.size+1) (some ⟨v1.heap.size,0,none⟩) 1 1 (evC ⟨⟨#[]⟩,0,lt,6,p,i,0,⟨#[]⟩⟩) rfl HR9.o (fun h=>by cases h) (fun u hu=>Zb1 [⟨⟨#[]⟩,0,lt,6,p,i,0,⟨#[]⟩⟩] u (by simpa using hu)) (by unfold maxLen;omega) (by omega) (by simp;omega) ?_;intro v9 w9 ho9 hg9 hv9)
      | fail)
     obtain⟨A9,c9,hr9⟩:=Zbh ho9;subst hr9;have HG9:=zh hg9;have HO9:=zh ho9;clear hg9 ho9 hv9;go_wp2_with fail;go_meet;refine⟨A9,1,c9,rfl,by omega,zh rfl,zh (by simpa [hidL] using HO9.o),zh ((HK1.o.alloc _).grown HG9.o (fun j hj=>by cases hj;exact Or.inl rfl))⟩
   case rest=>
   obtain⟨A5,m5,c5,rfl,hm5,HM5,HO5,HK5⟩:=hcut;obtain⟨w9',rfl⟩:=zH wc;obtain⟨L5,hL5⟩:=zG (hidL a lt p i:List Ev);rw[hL5]at HM5 HO5 HLS;obtain⟨⟨_,x1,_,_⟩,hbx,_⟩:=HKP.o w9' HK5.o;have HWX:=zh hbx;have HC:=zh (HC2.o w9' HK5.o);clear hL5 hbx HC2;go_wp2_with fail;refine HC.o.mono ?_;rintro e v3 ⟨rfl,hbv⟩;have HO6:=zh (Ru.Za9 HO5.o hbv);have HW6:=zT HWX hbv;have HK6:Hid (Kept (fun q=>q=b0) w7 v3):=zh (HK5.o.below hbv HK5.o.size);have HZ3:Hid (b0<=v3.heap.size+1):=zh (by have:=HK6.o.size;omega);have hz3:=HZ3.o;clear hbv HC x1;cases mu with
   | false=>
    have dk:(km == 9)=false:=by have h:=HM1.o;rw[beq_eq_false_iff_ne];exact of_decide_eq_false h
    have HLF:Hid (cs=L5):=zh (by rw[HLS.o];unfold mutM;simp);go_wp2_with fail;go_meet;exact⟨A5,m5,c5,rfl,zh ⟨by rw[HLF.o];exact HM5.o,by omega⟩,zh (by rw[HLF.o];exact HO6.o),HW6⟩
   | true=>
    have dk:(km == 9)=true:=by have h:=HM1.o;rw[beq_iff_eq];exact of_decide_eq_true h
    have HLF:Hid (cs=L5++[⟨⟨#[]⟩,0,lt,10,p,⟨#[]⟩,0,q1⟩]):=zh (by rw[HLS.o];unfold mutM;simp);have hm9:m5<=1:=hm5;go_wp2_with fail;refine Zaq (fun W=>Kept (fun q=>q=b0) w7 W) [(0,1),(1,1),(2,1),(4,1),(5,1),(6,1),(3,2),(7,1),(8,2),(9,3),(10,0)] (by kernel_rfl) (by kernel_rfl) HK6.o.drew ?_;simp only[planNL,xq4,xq5];obtain⟨wd,hwd⟩:=zG (v3.drew);have HKD:Hid (Kept (fun q=>q=b0) w7 wd):=zh (by rw[<-hwd];exact HK6.o.drew);have HWD:Hid (Below w.heap.size w wd):=zh (by rw[<-hwd];exact HW6.o.drew);have HOD:Hid (wd.ownsRow b0 66 8 (.slice A5 m5 c5) m5 (L5.flatMap evC)):=zh (by rw[<-hwd];exact Ru.Za9 HO6.o (Below.refl _ _).drew);have HZD:Hid (b0<=wd.heap.size+1):=zh (by rw[<-hwd];exact HZ3.o);rw[hwd];clear hwd
    repeat ((first|(refine Zan _ (by rfl) (fun W hW=>by (obtain⟨⟨_,x1,_,_⟩,_,_⟩:=HKP.o W hW;go_simp;try with_reducible rfl)) ?_)|(refine planN_off (by rfl) ?_));simp only[Act.put,xq1,xq2,xq3])
    refine Za4 ?_;have HC:=zh (HLT.o wd HWD.o);go_wp2_with fail;refine HC.o.mono ?_;rintro e v4 ⟨rfl,hv⟩;obtain rfl:=hv.symm;clear HC;go_wp2_with fail;refine⟨HKD.o,?_⟩
    repeat ((first|(refine Zan _ (by rfl) (fun W hW=>by (obtain⟨⟨_,x1,_,_⟩,_,_⟩:=HKP.o W hW;go_simp;try with_reducible rfl)) ?_)|(refine planN_off (by rfl) ?_));simp only[Act.put,xq1,xq2,xq3])
    refine Za4 ?_;have HR9:Hid (RowIn (wd.alloc (.cells (evArr ⟨⟨#[]⟩,0,lt,10,p,⟨#[]⟩,0,q1⟩) 66)) (wd.heap.size+1) 8 (some ⟨wd.heap.size,0,none⟩) 1 (evC ⟨⟨#[]⟩,0,lt,10,p,⟨#[]⟩,0,q1⟩)):=zh (Zhm wd _ _);unfold evArr at HR9;have hzd:=HZD.o;go_wp2_with fail;refine⟨HKD.o.alloc _,?_⟩;refine Zai ?_
    go_wp2_with (first
     | (at_builtin;refine Zaa _ rfl _ _ 22 rfl b0 66 i0 _ 8 96 Tryz.underlying22 hi0 hy0 hy1 hy2 rfl (by omega) (.slice A5 m5 c5) m5 _ rfl (HOD.o.alloc _) (wd.heap.size+1) (some ⟨wd.heap.size,0,none⟩) 1 1 (evC ⟨⟨#[]⟩,0,lt,10,p,⟨#[]⟩,0,q1⟩) rfl HR9.o (fun h=>by cases h) (fun u hu=>Zb1 [⟨⟨#[]⟩,0,lt,10,p,⟨#[]⟩,0,q1⟩] u (by simpa using hu)) (by unfold maxLen;omega) (by omega) (by simp;omega) ?_;intro v9 w9 ho9 hg9 hv9)
     | fail)
    obtain⟨A9,c9,hr9⟩:=Zbh ho9;subst hr9;have HG9:=zh hg9;have HO9:=zh ho9;clear hg9 ho9 hv9
    (try go_wp2_with fail)
    repeat ((first|(refine planN_on0 _ (by rfl) (fun W hW=>by (go_simp;try with_reducible rfl)) ?_)|(refine planN_off (by rfl) ?_));simp only[Act.put,xq1,xq2,xq3])
    refine Zaj ?_;go_wp2_with fail;go_meet;refine⟨A9,m5+1,c9,rfl,zh ⟨by rw[HLF.o,List.length_append,HM5.o];rfl,by omega⟩,zh (by rw[HLF.o,List.flatMap_append];simpa using HO9.o),zh ((HWD.o.alloc HWD.o.size _).grown HG9.o (HWD.o.alloc HWD.o.size _).size (fun j hj=>by have:=(Zd1 HOD.o hj).1;have:=HZB.o;omega))⟩
  ·have d1:((y:Int) == 1)=false:=by rw[beq_eq_false_iff_ne];omega
   have d2:((y:Int) == 2)=false:=by rw[beq_eq_false_iff_ne];omega
   have d3:((y:Int) == 3)=false:=by rw[beq_eq_false_iff_ne];omega
   have d5:((y:Int) == 5)=true:=by rw[beq_iff_eq];omega
   obtain⟨lt,hlt⟩:=zG (lateP E now);obtain⟨fn,hfn⟩:=zG (fansN (rowsW E) i:Nat);obtain⟨nd,hnd⟩:=zG (c.crowd - (fn:Int):Int);have hcr:=HCR.o;have hfl:fn<=1000:=by
    rw[<-hfn];refine Nat.le_trans (Zq4 _ _) ?_;have:=Zcs E;have:=HN.o;omega
   have HLS:=zh ((hy1 ▸ HCS.o:cureL E 5 p i now c.crowd=cs).symm.trans (cure_5 hfn hnd hlt (by omega)));rw[hlt]at HLT
   have HFA:Hid (∀W,Below w7.heap.size w7 W->Calls Tryz.prog 53 #[.slice A7 m7 c7,.string i] W fun e w'=>e = .returned (.int .i64 (fn:Int))/\Below W.heap.size W w'):=zh (fun W hb=>by
    refine (rfans_any W W.heap.size A7 m7 c7 xl i HXL.o.1 (HKP.o W (below_kept hb (zr _))).2.2 (zr _) HXL.o.2.2).mono ?_;rintro e w' ⟨m,out,rfl,rfl,hf,hb2⟩;exact⟨by rw[fan_same HXL.o.2.1 hf,hfn],hb2⟩)
   have hwn:IntKind.i64.wrap (c.crowd - (fn:Int))=nd:=by rw[hnd];exact IntWalk.i64_in _ (by omega)
   have hwm:IntKind.i64.wrap nd=nd:=IntWalk.i64_in _ (by omega);have HND:Hid (nd<=12):=zh (by omega);clear hy1 hlt hfn x5 x1 x2 x4 hcr;go_wp2_with fail;refine Zar (fun W=>Below w7.heap.size w7 W) [(0,false),(1,false),(2,false),(3,false),(4,true),(5,false),(6,false)] (by kernel_rfl) (by kernel_rfl) (below_drew (Below.refl _ _)) ?_;simp only[planL,xq4,xq5];obtain⟨wd,hwd⟩:=zG (w7.drew);have HBD:=zD hwd;rw[hwd];clear hwd
   repeat ((first|(refine Zaf _ (by rfl) (fun W hW=>by (obtain⟨⟨x5,_,_,_⟩,_,_⟩:=HKP.o W (below_kept hW (zr _));go_simp;try with_reducible rfl)) ?_)|(refine Zac (by rfl) ?_));simp only[Act.put,xq1,xq2,xq3])
   refine Zae ?_;have HC:=zh (HFA.o wd HBD.o);go_wp2_with fail;refine HC.o.mono ?_;rintro e v1 ⟨rfl,hbv⟩;have HBV:=zT HBD hbv;clear hbv HC HFA;go_wp2_with fail;refine⟨HBV.o,?_⟩;refine Zaf (.int .i64 nd) (by rfl) (fun W hW=>by go_simp;try with_reducible rfl) ?_;simp only[Act.put,xq1,xq2,xq3]
   repeat ((first|(refine Zaf _ (by rfl) (fun W hW=>by (go_simp;try with_reducible rfl)) ?_)|(refine Zac (by rfl) ?_));simp only[Act.put,xq1,xq2,xq3])
   refine Zah ?_;have HW1:=zT HW7 HBV.o;have HO1:Hid (v1.ownsRow b0 66 8 (.slice (some ⟨b0,0,none⟩) 0 0) 0 []):=zh (Ru.Za9 HO7.o HBV.o);have HZV:Hid (b0<=v1.heap.size):=zh (by have:=HBV.o.size;have:=HB7.o.size;have:=HZ2.o;omega);have hndb:=HND.o;have dbig:decide (1000<nd)=false:=decide_eq_false (by omega);have nbig:¬1000<nd:=by omega
   obtain⟨nt,hnt⟩:=zG (nd.toNat);have HNT:Hid (nd.toNat=nt/\nt<=12):=zh ⟨hnt,by omega⟩;rw[hnt]at HLS;clear hwn hwm hnd hnt;go_wp2_with fail;go_loopw [13,20] (fun lv iv wr=>∃(k j m c8:Nat) (A8:Option Addr),j=k+1/\iv = .int .i64 j/\lv = .slice A8 m c8/\m<=nt/\k<=n+nt/\Hid ((newT E k).length=m)/\Hid (wr.ownsRow b0 66 8 (.slice A8 m c8) m (((newT E k).map (fun k=>(⟨⟨#[]⟩,0,lt,1,nS k,i,0,⟨#[]⟩⟩:Ev))).flatMap evC))/\Hid (Below w.heap.size w wr)/\Hid (b0<=wr.heap.size)) (fun _ iv _=>n+nt+2 - (intOf iv).toNat)
   case atStart=>exact⟨0,1,0,0,_,rfl,rfl,rfl,Nat.zero_le _,Nat.zero_le _,zh rfl,HO1,HW1,HZV⟩
   case round=>
    clear HO1 HW1 HZV;obtain⟨k,j,m,c8,A8,hj,rfl,rfl,hm,hkn,hml,hrow,hbq,hzq⟩:=hrel;have HJ:=zh hj;have hn3:=HNT.o.2;by_cases hmn:m<nt
    ·have hkl:=Ztc hml.o hmn;rw[HN.o]at hkl;have dmn:decide ((m:Int)<nd)=true:=decide_eq_true (by have:=HNT.o.1;omega);have nmn:(m:Int)<nd:=by have:=HNT.o.1;omega
     have hcat:=nS_dig j;have hjb:j<=2002:=by omega
     have HDG:=zh (rdigits_any j wr (by omega));have HNN:Hid (nameB (nS j)=true):=zh (Zji (by omega));obtain⟨s1,hs1⟩:=zG (digW j:ByteArray);have hsz1:s1.size<=24:=by
      have h1:=Zay HNN.o;rw[<-hcat,ByteArray.size_append,hs1]at h1;omega
     rw[hs1]at HDG hcat;obtain⟨kb,hkb⟩:=zG (knownB E (nS j));have HNS:Hid (newT E j=newT E k++if kb then [] else [j]):=zh (by rw[HJ.o,Zon,<-HJ.o,hkb]);obtain⟨nm,hnm⟩:=zG (nS j);have HNM:=zh hnm;have HKNW:Hid (∀W,Below w.heap.size w W->Calls Tryz.prog 55 #[.slice A n cp,.string nm] W fun e w'=>e = .returned (.bool kb)/\w'=W):=zh (fun W hb=>by have h:=HKN.o W nm hb;rw[<-hnm,hkb,hnm]at h;exact h);rw[hnm]at hcat;clear hj hs1 hkb hnm;go_wp2_with fail;refine HDG.o.mono ?_;rintro e w8 ⟨rfl,hb8⟩;have HB8:=zT hbq hb8;have HO8:=zh (Ru.Za9 hrow.o hb8);have HZ8:Hid (b0<=w8.heap.size):=zh (Nat.le_trans hzq.o hb8.size);have HC:=zh (HKNW.o w8 HB8.o);clear hb8 HDG;go_wp2_with fail;refine HC.o.mono ?_;rintro e w9' ⟨rfl,rfl⟩;clear HC;cases kb with
     | true=>
      have HNS2:Hid (newT E j=newT E k):=zh (by rw[HNS.o];simp);go_wp2_with fail;go_roundw
      case rel=>exact⟨j,j+1,m,c8,A8,rfl,by go_num,rfl,hm,by have:=HJ.o;omega,zh (by rw[HNS2.o];exact hml.o),zh (by rw[HNS2.o];exact HO8.o),HB8,HZ8⟩
      case measure=>simp[intOf];have:=HJ.o;omega
     | false=>
      have HNS2:Hid (newT E j=newT E k++[j]):=zh (by rw[HNS.o];simp);have HC:=zh (HLT.o w9' HB8.o);have hz8:b0<=w9'.heap.size+1:=by have:=HZ8.o;omega
      go_wp2_with fail;refine HC.o.mono ?_;rintro e w10 ⟨rfl,rfl⟩;clear HC;have HR9:Hid (RowIn (w10.alloc (.cells (evArr ⟨⟨#[]⟩,0,lt,1,nm,i,0,⟨#[]⟩⟩) 66)) (w10.heap.size+1) 8 (some ⟨w10.heap.size,0,none⟩) 1 (evC ⟨⟨#[]⟩,0,lt,1,nm,i,0,⟨#[]⟩⟩)):=zh (Zhm w10 _ _);unfold evArr at HR9
      go_wp2_with (first
       | (at_builtin;refine Zaa _ rfl _ _ 22 rfl b0 66 i0 _ 8 96 Tryz.underlying22 hi0 hy0 hy1 hy2 rfl (by omega) (.slice A8 m c8) m _ rfl (HO8.o.alloc _) (w10.heap.size+1) (some ⟨w10.heap.size,0,none⟩) 1 1 (evC ⟨⟨#[]⟩,0,lt,1,nm,i,0,⟨#[]⟩⟩) rfl HR9.o (fun h=>by cases h) (fun u hu=>Zb1 [⟨⟨#[]⟩,0,lt,1,nm,i,0,⟨#[]⟩⟩] u (by simpa using hu)) (by unfold maxLen;omega) (by omega) (by simp;omega) ?_;intro v9 w9 ho9 hg9 hv9)
       | fail)
      obtain⟨A9,c9,hr9⟩:=Zbh ho9;subst hr9;have HG9:=zh hg9;have HO9:=zh ho9;clear hg9 ho9 hv9;go_wp2_with fail;go_roundw
      case rel=>
       refine⟨j,j+1,m+1,c9,A9,rfl,by go_num,rfl,by omega,by have:=HJ.o;omega,zh (by rw[HNS2.o,List.length_append,hml.o];rfl),zh ?_,zh ((HB8.o.alloc HB8.o.size _).grown HG9.o (HB8.o.alloc HB8.o.size _).size (fun j hj=>by have:=(Zd1 HO8.o hj).1;have:=HZB.o;omega)),zh (Nat.le_trans HZ8.o (Nat.le_trans (by simp) HG9.o.size))⟩;rw[HNS2.o,List.map_append,List.flatMap_append,List.map_singleton,HNM.o];simpa using HO9.o
      case measure=>simp[intOf];have:=HJ.o;omega
    ·have hmt:m=nt:=by omega
     have HDN:Hid (newN E nt=newT E k):=zh (Zoo (by rw[hml.o,hmt]) (by rw[HN.o];exact hkn));have dmn:decide ((m:Int)<nd)=false:=decide_eq_false (by have:=HNT.o.1;omega);have nmn:¬(m:Int)<nd:=by have:=HNT.o.1;omega
     clear hmt hmn;go_wp2_with fail;go_meet;refine⟨A8,m,c8,rfl,zh ⟨?_,by omega⟩,zh ?_,hbq⟩
     ·rw[HLS.o,HDN.o,List.length_map,hml.o]
     ·rw[HLS.o,HDN.o];exact hrow.o
  ·have d1:((y:Int) == 1)=false:=by rw[beq_eq_false_iff_ne];omega
   have d2:((y:Int) == 2)=false:=by rw[beq_eq_false_iff_ne];omega
   have d3:((y:Int) == 3)=false:=by rw[beq_eq_false_iff_ne];omega
   have d5:((y:Int) == 5)=false:=by rw[beq_eq_false_iff_ne];omega
   have HLS:=zh (HCS.o.symm.trans (cure_no hy1));clear hy1 x5 x1 x2 x4;go_wp2_with fail;go_meet;exact⟨_,0,0,rfl,zh ⟨by rw[HLS.o];rfl,by omega⟩,zh (by rw[HLS.o];exact HO7.o),HW7⟩
 case rest=>
 obtain⟨A8,m8,c8,rfl,HM8,HO8,HW8⟩:=hcut;obtain⟨w8,rfl⟩:=zH wc;have hm8:=HM8.o.2;have hgr:=HGR.o;have hwr:IntKind.i64.wrap (g0+(m8:Int))=g0+(m8:Int):=IntWalk.i64_in _ (by omega);by_cases hov:1099511627776<g0+(m8:Int)
 ·have HF:Hid (cureP E y p i now c.crowd = []):=zh (by rw[HCP.o];unfold cured;rw[if_pos (by rw[HG0.o,HM8.o.1];exact hov)]);have hdv:decide (1099511627776<g0+(m8:Int))=true:=decide_eq_true hov;go_wp2_with fail;go_ret;rw[HF.o];exact⟨_,0,0,rfl,rfl,RowIn.nil _ _ _ _,HW8.o.alloc HW8.o.size _⟩
 ·have HF:Hid (cureP E y p i now c.crowd=numL g0 0 cs):=zh (by rw[HCP.o];unfold cured;rw[if_neg (by rw[HG0.o,HM8.o.1];exact hov),HG0.o]);have hdv:decide (1099511627776<g0+(m8:Int))=false:=decide_eq_false hov;obtain⟨zs,hzs⟩:=zG zzS;have HZZ:=zh hzs;rw[hzs]at HSRC;clear hzs;go_wp2_with fail;go_loopw [22] (fun iv wr=>∃j:Nat,j<=m8/\iv = .int .i64 j/\Hid (wr.ownsRow b0 66 8 (.slice A8 m8 c8) m8 ((midZ g0 cs j).flatMap evC))/\Hid (Below w.heap.size w wr)) (fun iv _=>m8 - (intOf iv).toNat)
  case atStart=>exact⟨0,Nat.zero_le _,rfl,zh (by rw[Zoj];exact HO8.o),HW8⟩
  case round=>
   clear HO8 HW8;obtain⟨j,hj,rfl,ho,hbq⟩:=hrel;by_cases hlt2:j<m8
   ·obtain⟨e,he⟩:∃e,cs[j]? = some e:=⟨cs[j]'(by rw[HM8.o.1];exact hlt2),List.getElem?_eq_getElem _⟩
    have HEJ:=zh he;obtain⟨g,cap,hv,hgb,hgl⟩:=ho.o.form (by omega);injection hv with hv1 _ hv2;subst hv1 hv2;have c0:World.cell? wr ⟨g,j*8,none⟩=some (.string e.src):=by
     have h:=ho.o.cells (g:=g) rfl (j*8) (.string e.src) (Zbi evC 8 Za7 _ j 0 e (Zjk he) (by omega))
     rwa [at_add,Nat.zero_add]at h
    have c1:World.cell? wr ⟨g,j*8+1,none⟩=some (.int .i64 e.num):=by
     have h:=ho.o.cells (g:=g) rfl (j*8+1) (.int .i64 e.num) (Zbi evC 8 Za7 _ j 1 e (Zjk he) (by omega))
     rwa [at_add,Nat.zero_add]at h
    have f0:World.frozen? wr ⟨g,j*8,none⟩=false:=ho.o.frozenAt _;have f1:World.frozen? wr ⟨g,j*8+1,none⟩=false:=ho.o.frozenAt _;have HST:=zh (ho.o.stored (j*8) (.string zs));have HST2:=zh (HST.o.1.stored (j*8+1) (.int .i64 (g0+1+(j:Int))));have HGBJ:Hid (w.heap.size<=g):=zh (by have:=HZB.o;omega);have hj8:(j:Int)<(m8:Int):=by omega
    have hj9:(0:Int)<=(j:Int):=by omega
    have hw1:IntKind.i64.wrap (g0+1)=g0+1:=IntWalk.i64_in _ (by omega);have hw2:IntKind.i64.wrap (g0+1+(j:Int))=g0+1+(j:Int):=IntWalk.i64_in _ (by omega);have HC:=zh (HSRC.o wr);clear he hgb hgl;go_wp2_with fail;refine HC.o.mono ?_;rintro e2 w9 ⟨rfl,rfl⟩;clear HC;go_wp2_with fail;go_roundw
    case rel=>
     refine⟨j+1,by omega,by go_num,zh ?_,zh ((hbq.o.setCell (p:=⟨g,j*8,none⟩) HGBJ.o _).setCell (p:=⟨g,j*8+1,none⟩) HGBJ.o _)⟩;have h:=HST2.o.1;rw[Zok (Zjk HEJ.o),<-HZZ.o,show (⟨zzS,g0+1+(j:Int),e.tick,e.kind,e.person,e.item,e.value,e.text⟩:Ev)=setZ e (g0+1+j) from rfl,Zq3 HEJ.o]at h;rw[<-HZZ.o];exact h
    case measure=>simp[intOf];omega
   ·obtain rfl:m8=j:=by omega
    have hjj:¬(m8:Int)<(m8:Int):=by omega
    go_wp2_with fail;go_ret;rw[HF.o];refine⟨A8,m8,c8,rfl,by rw[Zbz,HM8.o.1],?_,hbq.o⟩;have h:=ho.o;rw[<-HM8.o.1,Zq2,HM8.o.1]at h;unfold EvsAt;rw[Zbz,HM8.o.1];exact RowIn.of_own h
end Go.Proofs.YtphmhbcimhlcjaaGreatDoor
