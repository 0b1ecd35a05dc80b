/- A part of the joined base. -/
import Derived.Test.YtnpfaajhgghpgaaGreatDoorU26
import Derived.Test.YtnpfaajhgghpgaaGreatDoorU23
set_option linter.unusedVariables false
set_option maxHeartbeats 8000000
set_option maxRecDepth 100000
namespace Go.Proofs.YtnpfaajhgghpgaaGreatDoor
open Go.Shelf Go.RowKit Go.Maps
theorem Zic {P:Program}{t k e:TypeId}(ht:P.underlying t=some (.map k e))(n:Int)(w:World):(Instr.makeMap t (some (.int .i64 n))).run P w = .ok (.map (some w.heap.size)) (w.alloc (.map #[] 0)):=by
 simp[Instr.makeMap,run_underlying ht,asInt,asIntOf]
theorem Znt {e:Ev}(h:mayB e=true):0<=e.value/\e.value<=1048576:=by
 have h1:=(Zas h).2.2.2;have h2:=Zdr h;unfold kindB at h1;split at h1
 ·simp at h1;omega
 ·split at h1
  ·simp at h1;omega
  ·split at h1
   ·simp at h1;omega
   ·split at h1
    ·simp at h1;omega
    ·split at h1
     ·simp at h1;omega
     ·split at h1
      ·simp at h1;omega
      ·split at h1
       ·simp at h1;omega
       ·cases h1
theorem EvOk.id {e:Ev}(h:EvOk e):IdOk e:=by
 have h1:=(Zas h.1).2.1;have h2:=h.2.1;exact⟨by unfold maxLen;omega,by unfold InR;omega⟩
theorem EvOk.val {e:Ev}(h:EvOk e):InR e.value:=by
 have:=Znt h.1;unfold InR;omega
theorem zeroEv (w:World):(zeroValue 59).run Tryz.prog w = .ok (evA ev0) w:=by kernel_rfl
theorem Znu {e:Ev}(h:EvOk e):fmtB e=fmtJ e:=by unfold fmtB;rw[if_pos h.1]
def putB (o:Option Ev)(e:Ev):Bool:=match o with|none=>true|some o=>betB fmtB e o
theorem Zqg {o:Option Ev}{e:Ev}(h:putB o e=true):lstV fmtB o e=e:=by
 cases o with
 | none=>rfl
 | some o=>exact if_pos h
theorem Zsv {o:Option Ev}{e:Ev}(h:putB o e=false):o=some (lstV fmtB o e):=by
 cases o with
 | none=>cases h
 | some o=>
  show some o=some (if betB fmtB e o then e else o);rw[if_neg (by rw[show betB fmtB e o=false from h];simp)]
def LmAt (w:World)(mb k:Nat)(l:List Ev):Prop:=∃M,MapIs Tryz.prog 116 okEv w mb k M/\LeastIs fmtB l M
def AnewR (w:World)(l:List Ev)(x:Ending)(w':World):Prop:=∃A E m,x = .returned (.slice A m m)/\E.length=m/\AnewIs fmtB l E/\EvsAt w' w'.heap.size A E/\(A=none->m=0)/\(∀g,(Value.slice A m m).ownBlock=some g->w.heap.size<=g)/\Below w.heap.size w w'
theorem Zqh (w:World)(B:Nat)(A:Option Addr)(l:List Ev)(n c:Nat)(hn:l.length=n)(hl:EvsAt w B A l)(hB:B<=w.heap.size)(hb:n<=10000)(hok:∀e∈l,EvOk e)(hg:GlobAt w)(hkn:KnAt w)(htb:Ru.TabAt w) :
  Calls Tryz.prog 15 #[.slice A n c] w (AnewR w l):=by
 have hmm:=@run_makeMap Tryz.prog;have hmh:=@Zic Tryz.prog _ _ _ Tryz.underlying114;have HN:=zh hn;have HL:=zh hl;have HOK:=zh hok;have HG:=zh hg;have HKN:=zh hkn;have HTB:=zh htb;obtain⟨mb,hmb⟩:=zG (w.heap.size);obtain⟨w1,hw1⟩:=zG (w.alloc (.map #[] 0));have HB1:=zA hw1;have HM1:Hid (LmAt w1 mb 0 (l.take 0)):=zh ⟨_,by rw[<-hw1,<-hmb];exact MapIs.made w Tryz.prog _ okEv,LeastIs.nil _⟩;have HMB:=zh hmb;clear hn hl hok hg hkn htb hmb;go_enter Tryz.func15,Tryz.ntmps15;go_wp2_with fail;rw[HMB.o];clear hw1;go_loopw [21] (fun i wr=>∃k:Nat,k<=n/\i = .int .i64 k/\Hid (LmAt wr mb k (l.take k))/\Hid (Below w.heap.size w wr)) (fun i _=>n - (intOf i).toNat)
 case atStart=>exact⟨0,Nat.zero_le _,rfl,HM1,HB1⟩
 case round=>
  clear HM1 HB1;obtain⟨k,hk,rfl,hm,hbw⟩:=hrel;by_cases hlt:k<n
  ·obtain⟨e,he⟩:∃e,l[k]? = some e:=⟨l[k]'(by rw[HN.o];exact hlt),List.getElem?_eq_getElem _⟩
   have HE:=zh (HOK.o e (List.mem_of_getElem? he));obtain⟨g,o,rfl,hgB,hcl⟩:=HL.o.at (by rw[HN.o];omega);have hwz:=hbw.o.size;obtain⟨c0,c1,c2,c3,c4,c5,c6,c7⟩:EvAt wr g (o+k*8) e:=(hcl k e he).keep (fun j=>hbw.o.cell (p:=⟨g,j,none⟩) (by show g<_;omega));have HTK:Hid (l.take (k+1)=l.take k++[e]):=zh (Zbd he);have hk8:(k:Int)<(n:Int):=by omega
   have hk9:(0:Int)<=(k:Int):=by omega
   obtain⟨M,hM,hLM⟩:=hm.o;have HM:=zh hM;have HLM:=zh hLM;obtain⟨old,hold⟩:=zG (lstG fmtB (l.take k) e.src e.num);have HID:=zh HE.o.id;have HAT:Hid (M (litI e.src e.num)=old.map evA):=zh (by rw[<-hold];exact hLM.at_ _ _ HID.o.1 HID.o.2);have HOLD:=zh hold;obtain⟨oe,hoe⟩:=zG (old.getD ev0);obtain⟨is,his⟩:=zG (old.isSome);have HV:Hid ((M (litI e.src e.num)).getD (evA ev0)=evA oe):=zh (by rw[HAT.o,<-hoe];cases old <;> rfl);have HIS:Hid ((M (litI e.src e.num)).isSome=is):=zh (by rw[HAT.o,<-his];cases old <;> rfl);have HOE:=zh hoe;have HI2:=zh his;have HKEY:=zh (Zhu e.src e.num HID.o.1 HID.o.2);clear hcl he hM hLM hold hoe his hm;unfold evA at HV
   go_upto_region 7 with (first
    | (at_lookup;refine Za0 _ rfl _ _ 114 rfl 116 59 idnKeyed Tryz.underlying114 okEv _ (zeroEv _) (Zmu _) mb k M rfl ((HM.o.alloc _).alloc _) _ _ rfl HKEY.o _ HV.o is HIS.o ?_)
    | fail)
   obtain⟨eb,heb⟩:=zG (wr.heap.size);obtain⟨w4,hw4⟩:=zG (((wr.alloc (.cells (evArr e) 59)).alloc (.cells #[.string e.src,.int .i64 e.num] 116)).alloc (.cells (evArr oe) 59));have HB4:Hid (Below wr.heap.size wr w4):=zh (by rw[<-hw4];exact (((Below.refl _ _).alloc (zr _) _).alloc (by simp) _).alloc (by simp;omega) _);have HX0:Hid (Blk w4 eb 59 (evArr e)):=zh (by rw[<-hw4,<-heb];exact ((Blk.new _ _ _).alloc _).alloc _);have HX1:Hid (Blk w4 (eb+1) 116 #[.string e.src,.int .i64 e.num]):=zh (by rw[<-hw4,<-heb];have:=(Blk.new (wr.alloc (.cells (evArr e) 59)) 116 #[.string e.src,.int .i64 e.num]).alloc (.cells (evArr oe) 59);simpa using this);have HX2:Hid (Blk w4 (eb+2) 59 (evArr oe)):=zh (by rw[<-hw4,<-heb];have:=Blk.new ((wr.alloc (.cells (evArr e) 59)).alloc (.cells #[.string e.src,.int .i64 e.num] 116)) 59 (evArr oe);simpa using this);have hw4':=hw4;unfold evArr at hw4';rw[hw4'];have HEB:=zh heb;rw[heb];clear hw4 hw4' heb c0 c1 c2 c3 c4 c5 c6 c7;obtain⟨p0,p1,p2,p3,p4,p5,p6,p7⟩:=zC8 HX0.o;obtain⟨q0,q1,q2,q3,q4,q5,q6,q7⟩:=zC8 HX2.o;have HCE:=zh (Zge e oe w4);unfold evA at HCE;go_wp2_with fail;refine HCE.o.mono ?_;rintro e' w5 ⟨rfl,hb5⟩;have HB5:=zT HB4 hb5;have HY0:Hid (Blk w5 eb 59 (evArr e)):=zX HX0 hb5;have HY1:Hid (Blk w5 (eb+1) 116 #[.string e.src,.int .i64 e.num]):=zX HX1 hb5;have HY2:Hid (Blk w5 (eb+2) 59 (evArr oe)):=zX HX2 hb5;clear hb5 HCE HX0 HX1 HX2 HB4 p0 p1 p2 p3 p4 p5 p6 p7 q0 q1 q2 q3 q4 q5 q6 q7;obtain⟨cz,hcz⟩:=zG (cmpE e oe);have HCZ:=zh hcz;have hcr:cz = -1\/cz=0\/cz=1:=by rw[<-hcz];exact Zgg e oe
   rw[hcz];obtain⟨pb,hpb⟩:=zG (putB old e);have HPB:=zh hpb;clear hcz hpb;go_upto_region 8 with fail;go_cut [55] (fun v wx=>v = .bool pb/\Hid (Below w5.heap.size w5 wx))
   case first=>
    cases old with
    | none=>
     obtain rfl:is=false:=by rw[<-HI2.o];rfl
     obtain rfl:pb=true:=by rw[<-HPB.o];rfl
     clear hcr;go_quiet (fail);go_wp2_with fail;go_meet;exact⟨rfl,zh (below_drewN (Below.refl _ _) _)⟩
    | some o=>
     obtain rfl:is=true:=by rw[<-HI2.o];rfl
     obtain rfl:o=oe:=HOE.o;have HPB2:Hid ((decide (cz<0) || (decide (cz=0)&&ltB (fmtB e) (fmtB o)))=pb):=zh (by rw[<-HCZ.o];exact HPB.o);rcases hcr with rfl|rfl|rfl
     ·obtain rfl:pb=true:=by rw[<-HPB2.o];rfl
      go_quiet (fail);go_wp2_with fail;go_meet;exact⟨rfl,zh (below_drewN (Below.refl _ _) _)⟩
     ·have HOO:Hid (EvOk o):=zh (HOK.o o ((List.take_sublist _ _).subset (Zbp HOLD.o).1));have hlb:Op.bytesLess (fmtJ e).toList (fmtJ o).toList=pb:=by
       rw[<-HPB2.o,Znu HE.o,Znu HOO.o]
       rfl
      have HLB:=zh hlb
      have HSC:Hid (∀W,Below w5.heap.size w5 W->EvAt W eb 0 e/\EvAt W (eb+2) 0 o):=zh (fun W hb=>by
       have h1:Blk W eb 59 (evArr e):=(hb.block _ HY0.o.lt).trans HY0.o;have h2:Blk W (eb+2) 59 (evArr o):=(hb.block _ HY2.o.lt).trans HY2.o;exact⟨⟨h1.cell 0,h1.cell 1,h1.cell 2,h1.cell 3,h1.cell 4,h1.cell 5,h1.cell 6,h1.cell 7⟩,⟨h2.cell 0,h2.cell 1,h2.cell 2,h2.cell 3,h2.cell 4,h2.cell 5,h2.cell 6,h2.cell 7⟩⟩)
      have HWB:=zT hbw HB5.o
      have HF1:Hid (∀W,Below w5.heap.size w5 W->Calls Tryz.prog 46 #[evA e] W fun x w'=>x = .returned (.string (fmtJ e))/\Below W.heap.size W w'):=zh (fun W hb=>by
       have h3:=HWB.o.trans (hb.mono HWB.o.size);exact Zf3 e W HE.o HE.o.val (HG.o.keep h3 (zr _)) (HKN.o.keep h3 (zr _)) (HTB.o.keep h3))
      have HF2:Hid (∀W,Below w5.heap.size w5 W->Calls Tryz.prog 46 #[evA o] W fun x w'=>x = .returned (.string (fmtJ o))/\Below W.heap.size W w'):=zh (fun W hb=>by
       have h3:=HWB.o.trans (hb.mono HWB.o.size);exact Zf3 o W HOO.o HOO.o.val (HG.o.keep h3 (zr _)) (HKN.o.keep h3 (zr _)) (HTB.o.keep h3))
      unfold evA at HF1 HF2;obtain⟨fe,hfe⟩:=zG (fmtJ e);obtain⟨fo,hfo⟩:=zG (fmtJ o);rw[hfe]at HF1 HLB hlb;rw[hfo]at HF2 HLB hlb;clear hfe hfo;refine Zar (fun W=>Below w5.heap.size w5 W) [(0,false),(1,false),(2,false),(3,false),(4,false),(5,false),(6,false),(7,false),(8,false),(9,false),(10,false),(12,false),(11,true),(13,true),(14,false),(15,false),(16,false)] (by kernel_rfl) (by kernel_rfl) (below_drew (Below.refl _ _)) ?_;simp only[planL,xq4,xq5];obtain⟨wd,hwd⟩:=zG (w5.drew);have HBD:=zD hwd;rw[hwd];clear hwd
      repeat ((first|(refine Zaf _ (by rfl) (fun W hW=>by (obtain⟨⟨x0,x1,x2,x3,x4,x5,x6,x7⟩,y0,y1,y2,y3,y4,y5,y6,y7⟩:=HSC.o W hW;go_simp;try with_reducible rfl)) ?_)|(refine Zac (by rfl) ?_));simp only[Act.put,xq1,xq2,xq3])
      refine Zae ?_;have HC:=zh (HF1.o wd HBD.o);go_wp2_with fail;refine HC.o.mono ?_;rintro e' w6 ⟨rfl,hb6⟩;have HB6:=zT HBD hb6;clear hb6 HC;go_wp2_with fail;refine⟨HB6.o,?_⟩;refine Zae ?_;have HC:=zh (HF2.o w6 HB6.o);go_wp2_with fail;refine HC.o.mono ?_;rintro e' w7 ⟨rfl,hb7⟩;have HB7:=zT HB6 hb7;clear hb7 HC;go_wp2_with fail;refine⟨HB7.o,?_⟩
      repeat ((first|(refine Zaf _ (by rfl) (fun W hW=>by (obtain⟨⟨x0,x1,x2,x3,x4,x5,x6,x7⟩,y0,y1,y2,y3,y4,y5,y6,y7⟩:=HSC.o W hW;go_simp;try with_reducible rfl)) ?_)|(refine Zac (by rfl) ?_));simp only[Act.put,xq1,xq2,xq3])
      refine Zah ?_;go_wp2_with fail;go_meet
      first|exact⟨rfl,HB7⟩|exact⟨by rw[HLB.o],HB7⟩
     ·obtain rfl:pb=false:=by rw[<-HPB2.o];rfl
      go_quiet (fail);go_wp2_with fail;go_meet;exact⟨rfl,zh (below_drewN (Below.refl _ _) _)⟩
   case rest=>
   obtain⟨rfl,hb6⟩:=hcut;obtain⟨w6,rfl⟩:=zH wc;have HB6:=zT HB5 hb6.o;have HM6:Hid (MapIs Tryz.prog 116 okEv w6 mb k M):=zh (HM.o.kept (below_kept (S:=fun _=>False) HB6.o (zr _)) (fun h=>h));have HZ0:Hid (Blk w6 eb 59 (evArr e)):=zh ((hb6.o.block _ HY0.o.lt).trans HY0.o);have HZ1:Hid (Blk w6 (eb+1) 116 #[.string e.src,.int .i64 e.num]):=zh ((hb6.o.block _ HY1.o.lt).trans HY1.o);obtain⟨p0,p1,p2,p3,p4,p5,p6,p7⟩:=zC8 HZ0.o;obtain⟨r0,r1⟩:=zC2 HZ1.o;clear hb6 HY0 HY1 HY2 HB5 hcr HM HV HIS HI2 HCZ;cases pb with
   | true=>
    go_wp2_with (first
     | (at_mapUpdate;refine Zag _ rfl _ _ _ 114 rfl 116 59 idnKeyed Tryz.underlying114 okEv mb k M rfl HM6.o (by unfold maxLen;omega) _ (evA e) _ rfl rfl HKEY.o (Zmu _) ?_;intro w7 hm7 hg7 hs7)
     | fail)
    have HM7:=zh hm7;have HK7:Hid (Below w.heap.size w w7):=zh ((hbw.o.trans (HB6.o.mono hwz)).grown hg7 (hbw.o.trans (HB6.o.mono hwz)).size (fun j hj=>by cases hj;exact Nat.le_of_eq HMB.o));clear hm7 hg7 hs7;go_roundw
    case rel=>exact⟨k+1,by omega,by go_num,zh ⟨_,HM7.o,by rw[HTK.o];exact HLM.o.set e HID.o (by rw[HOLD.o];exact Zqg HPB.o)⟩,HK7⟩
    case measure=>simp[intOf];omega
   | false=>
    go_wp2_with fail;go_roundw
    case rel=>exact⟨k+1,by omega,by go_num,zh ⟨M,HM6.o.mono (Nat.le_succ _),by rw[HTK.o];exact HLM.o.stay e (by rw[HOLD.o];exact Zsv HPB.o)⟩,zh (hbw.o.trans (HB6.o.mono hwz))⟩
    case measure=>simp[intOf];omega
  obtain rfl:n=k:=by omega
  have hta:l.take n=l:=by rw[<-HN.o,List.take_length]
  rw[hta]at hm;obtain⟨M,hM,hLM⟩:=hm.o;have HM:=zh hM;have HLM:=zh hLM;have hmbl:mb<wr.heap.size:=hM.lt;obtain⟨gb,hgb⟩:=zG (wr.heap.size);obtain⟨w2,hw2⟩:=zG (wr.alloc (.map #[] 0));have HB2:Hid (Below w.heap.size w w2):=zh (by rw[<-hw2];exact hbw.o.alloc hbw.o.size _);have HM2:Hid (MapIs Tryz.prog 116 okEv w2 mb n M):=zh (by rw[<-hw2];exact hM.alloc _);have HG2:Hid (MapIs Tryz.prog 9 okBool w2 gb 0 (mapG (stG (fun _=>false)))):=zh (by rw[<-hw2,<-hgb];exact (MapIs.made wr Tryz.prog 9 okBool).congr (fun kl=>by cases kl <;> rfl));have HZ2:Hid (w2.heap.size=gb+1):=zh (by rw[<-hw2,<-hgb];simp);have HGB:=zh hgb;have HWG:Hid (w.heap.size<=mb/\mb<gb):=zh ⟨Nat.le_of_eq HMB.o,by rw[<-hgb];exact hmbl⟩;rw[hgb]at hmbl;clear hM hLM hm hta hlt hgb
  go_wp2_with (first
   | (at_range;refine Zdl _ rfl _ 114 rfl 116 59 idnKeyed Tryz.underlying114 okEv mb n M rfl HM2.o ?_;intro w5 cnt5 hrg5 hg5 hs5 hc5)
   | fail)
  rw[HGB.o];obtain⟨r,hr⟩:=zG (w2.heap.size);rw[hr]at hrg5 ⊢;have HRG5:=zh hrg5;have HB5:Hid (Below w.heap.size w w5):=zh (HB2.o.grown hg5 HB2.o.size (fun q hq=>by cases hq));have HG5:Hid (MapIs Tryz.prog 9 okBool w5 gb 0 (mapG (stG (fun _=>false)))):=zh (HG2.o.grown hg5 (fun e=>by cases e));have HR5:Hid (r=gb+1):=zh (by rw[<-hr];exact HZ2.o);have HC5:=zh hc5;clear hrg5 hg5 hs5 hc5 hr hw2 HM2 HG2 HB2 hbw HM;go_frame;go_loopw [] (fun wq=>∃(left:Lit->Bool) (cnt q:Nat) (S:ByteArray->Bool),Hid (MapGoes Tryz.prog 116 okEv wq mb r n M left cnt)/\Hid (MapIs Tryz.prog 9 okBool wq gb q (mapG (stG S)))/\Hid (GoneIs fmtB l M left S)/\Hid (q+cnt<=n)/\Hid (Below w.heap.size w wq)) (fun wq=>wq.rangeLeft mb r)
  case atStart=>exact⟨_,cnt5,0,fun _=>false,HRG5,HG5,zh (GoneIs.start _ _ _),zh (by have:=HC5.o;omega),HB5⟩
  case round=>
   obtain⟨left,cnt,q,S,hrg,hgm,hgi,hq,hbw⟩:=hrel;clear HRG5 HG5 HB5;have hq':=hq.o;obtain⟨wq,rfl⟩:=zH wr
   go_wp2_with (first
    | (at_next;refine Zem _ rfl _ rfl 116 idnKeyed okEv evA (fun v hv=>Zrg hv) mb r n M left cnt rfl hrg.o ?_ ?_)
    | fail)
   ·intro h0 hl;have HGONE:Hid (∀p,S p=true↔goneP fmtB l p):=zh (hgi.o.done HLM.o hl (fun e he=>(HOK.o e he).id));have HMQ:=zh hrg.o.map;clear hl h0 hrg hgi
    go_wp2_with (first
     | (at_range;refine Zdl _ rfl _ 114 rfl 116 59 idnKeyed Tryz.underlying114 okEv mb n M rfl HMQ.o ?_;intro w6 cnt6 hrg6 hg6 hs6 hc6)
     | fail)
    obtain⟨r2,hr2⟩:=zG (wq.heap.size);rw[hr2]at hrg6 ⊢;have HRG6:=zh hrg6;have HB6:Hid (Below w.heap.size w w6):=zh (hbw.o.grown hg6 hbw.o.size (fun q hq=>by cases hq));have HG6:Hid (MapIs Tryz.prog 9 okBool w6 gb q (mapG (stG S))):=zh (hgm.o.grown hg6 (fun e=>by cases e));have HR6:Hid (gb<r2/\r2<w6.heap.size):=zh ⟨by rw[<-hr2];exact hgm.o.lt,by omega⟩;have HC6:=zh hc6;clear hrg6 hg6 hs6 hc6 hr2 hgm hbw hq hq' HMQ;go_frame;go_loopw [13] (fun v wz=>∃(left:Lit->Bool) (cnt:Nat) (acc:List Ev),Hid (MapGoes Tryz.prog 116 okEv wz mb r2 n M left cnt)/\Hid (MapIs Tryz.prog 9 okBool wz gb q (mapG (stG S)))/\Hid (LeftIs fmtB l M left acc)/\Hid (acc.length+cnt<=n)/\Hid (wz.ownsRow w6.heap.size 59 8 v acc.length (acc.flatMap evC))/\Hid (Below w.heap.size w wz)/\Hid (w6.heap.size<=wz.heap.size)) (fun _ wz=>wz.rangeLeft mb r2)
    case atStart=>exact⟨_,cnt6,[],HRG6,HG6,zh (LeftIs.start _ _ _),zh (by simpa using HC6.o),zh (own_nil _ _ _ _),HB6,zh (zr _)⟩
    case round=>
     obtain⟨left,cnt,acc,hrg,hgm,hli,hq,hrow,hbw,hz6⟩:=hrel;obtain⟨A6,c6,hv⟩:=own_shape hrow.o;rw[hv]at hrow ⊢;clear hv;obtain⟨m,hm⟩:=zG (acc.length);rw[hm]at hq hrow ⊢;have HM:=zh hm;have hq':=hq.o;have hz6':=hz6.o;clear hm HB6 HG6 HRG6;obtain⟨wz,rfl⟩:=zH wr
     go_wp2_with (first
      | (at_next;refine Zem _ rfl _ rfl 116 idnKeyed okEv evA (fun v hv=>Zrg hv) mb r2 n M left cnt rfl hrg.o ?_ ?_)
      | fail)
     ·intro h0 hl;have HLI:Hid (∀E:List Ev,E.Perm acc->SortedS E->AnewIs fmtB l E):=zh (fun E hp hs=>hli.o.done HLM.o hl (fun e he=>(HOK.o e he).id) hp hs);have hR:RowIn wz wz.heap.size 8 A6 m (acc.flatMap evC):=RowIn.of_own hrow.o
      have HST:=zh (Zlx wz wz.heap.size A6 acc m c6 HM.o (by show RowIn _ _ _ _ _ _;rw[HM.o];exact hR) (zr _) (fun hA=>by
       subst hA;rcases hrow.o.2 with ⟨h1,_⟩|⟨g,cap,cur,h1,_⟩
       ·injection h1
       ·cases h1) (by omega))
      clear hl h0 hrg hli hR;go_wp2_with fail;refine HST.o.mono ?_;rintro e9 w9 ⟨A9,l9,rfl,hp,hs,hev,hown,hnil,hb9⟩;have HP:=zh hp;have HS:=zh hs;have HEV:=zh hev;have HOWN:=zh hown;have HNIL:=zh hnil;have HB9:=zh hb9;clear hp hs hev hown hnil hb9 HST;go_wp2_with fail;go_ret;have hzz:=hbw.o.size;exact⟨A9,l9,m,rfl,by rw[HP.o.length_eq,HM.o],HLI.o l9 HP.o HS.o,HEV.o,HNIL.o,fun g hg=>Nat.le_trans hzz (HOWN.o g hg),hbw.o.trans (HB9.o.mono hzz)⟩
     ·intro key kl e w7 cnt1 hlk hMk hrg7 hlt7 hg7 hs7 hen;have HBX:Hid (Below w.heap.size w w7):=zh (hbw.o.grown hg7 hbw.o.size (fun j hj=>by cases hj;have:=HWG.o;have:=HR6.o;omega));have HGM:Hid (MapIs Tryz.prog 9 okBool w7 gb q (mapG (stG S))):=zh (hgm.o.grown hg7 (fun e=>by injection e with e;have:=HR6.o;omega));have hrow7:w7.ownsRow w6.heap.size 59 8 (.slice A6 m c6) m (acc.flatMap evC):=owns_kept hrow.o ((Kept.refl (fun i=>i=r2) wz).grown hg7 (fun j hj=>by cases hj;exact Or.inl rfl)) (fun g hg e=>by have:=(hrow.o.lt g hg).1;have:=HR6.o;omega);have HROW:=zh hrow7;have HZ7:Hid (w6.heap.size<=w7.heap.size):=zh (by omega);have HRG:=zh hrg7;have HMK:=zh hMk;have HLK:=zh hlk;have HLT7:=zh hlt7
      have HEO:Hid (EvOk e):=zh (by
       obtain⟨e2,h1,_,h3⟩:=HLM.o.inv kl _ hMk;rw[Zb4 h1];exact HOK.o e2 (Zbp h3).1)
      obtain⟨w8,hw8⟩:=zG (w7.alloc (.cells (evArr e) 59));have HX8:Hid (Blk w8 w7.heap.size 59 (evArr e)):=zB hw8;have HB8:Hid (Below w.heap.size w w8):=zh (by rw[<-hw8];exact HBX.o.alloc HBX.o.size _);have HGM8:Hid (MapIs Tryz.prog 9 okBool w8 gb q (mapG (stG S))):=zh (by rw[<-hw8];exact HGM.o.alloc _);have HRG8:Hid (MapGoes Tryz.prog 116 okEv w8 mb r2 n M (fun z=>left z && !z.sameKey kl) cnt1):=zh (by rw[<-hw8];exact HRG.o.alloc _);have HRW8:Hid (w8.ownsRow w6.heap.size 59 8 (.slice A6 m c6) m (acc.flatMap evC)):=zh (by rw[<-hw8];exact HROW.o.alloc _);have HZ8:Hid (w6.heap.size<=w8.heap.size):=zh (by rw[<-hw8];have:=HZ7.o;simp;omega);have hpz:e.person.size<=maxLen:=by have:=HEO.o.2.2.1;unfold maxLen;omega
      have HCL:Hid (w8.rangeLeft mb r2=cnt1/\wz.rangeLeft mb r2=cnt):=zh ⟨HRG8.o.left_eq,hrg.o.left_eq⟩;obtain⟨sb,hsb⟩:=zG (S e.person);have HSB:=zh hsb;have HGV:Hid ((mapG (stG S) (.string e.person.data.toList)).getD (.bool false) = .bool sb):=zh (by rw[mapG_at];unfold stG;rw[hsb];cases sb <;> rfl);obtain⟨x0,x1,x2,x3,x4,x5,x6,x7⟩:=zC8 HX8.o;obtain⟨i0,hi0,hy0,hy1,hy2⟩:=info_parts Zdd;have HADD:Hid (e.kind=14\/¬goneP fmtB l e.person->LeftIs fmtB l M (fun z=>left z && !z.sameKey kl) (acc++[e])):=zh (fun h=>hli.o.add HLM.o HMK.o HLK.o h);have HSKIP:Hid (¬(e.kind=14\/¬goneP fmtB l e.person)->LeftIs fmtB l M (fun z=>left z && !z.sameKey kl) acc):=zh (fun h=>hli.o.skip HLM.o HMK.o h);unfold evA at hen ⊢;unfold evArr at hw8;clear hlk hMk hrg7 hlt7 hg7 hs7 hrg hgm hsb hrow7 hrow hli;by_cases hc:sb=true/\e.kind≠14
      ·obtain⟨rfl,hk⟩:=hc;have z14:(e.kind == 14)=false:=by simp[hk]
       have HNO:Hid (LeftIs fmtB l M (fun z=>left z && !z.sameKey kl) acc):=zh (HSKIP.o (fun h=>h.elim hk (fun h=>h ((HGONE.o _).1 HSB.o))));clear hk
       go_wp2_with (first
        | (at_lookup;refine Zao _ rfl _ _ 67 rfl 9 4 (string_keyed Tryz.underlying9) Tryz.underlying67 okBool _ (zeroBool _) rfl gb q _ rfl HGM8.o _ _ rfl (WideMaps.keyOf_string_mk Tryz.underlying9 hpz) _ HGV.o ?_)
        | fail)
       go_roundw
       case rel=>exact⟨_,cnt1,acc,HRG8,HGM8,HNO,zh (by have:=HLT7.o;have:=HM.o;omega),by rw[HM.o];exact HRW8,HB8,HZ8⟩
       case measure=>rw[HCL.o.1,HCL.o.2];exact HLT7.o
      ·have HYES:Hid (LeftIs fmtB l M (fun z=>left z && !z.sameKey kl) (acc++[e])):=zh (HADD.o (by
        by_cases hk:e.kind=14
        ·exact Or.inl hk
        ·refine Or.inr (fun hg=>hc ⟨?_,hk⟩);rw[<-HSB.o];exact (HGONE.o _).2 hg))
       have hcond:sb=false\/(e.kind == 14)=true:=by
        by_cases hk:e.kind=14
        ·exact Or.inr (by simp[hk])
        ·cases sb with
         | false=>exact Or.inl rfl
         | true=>exact absurd ⟨rfl,hk⟩ hc
       have HR9:Hid (RowIn (w8.alloc (.cells (evArr e) 59)) (w8.heap.size+1) 8 (some ⟨w8.heap.size,0,none⟩) 1 (evC e)):=zh (Zhm w8 e _);unfold evArr at HR9;have hmn:m<=n:=by omega
       have hz6b:w6.heap.size<=w8.heap.size+1:=by have:=HZ8.o;omega
       clear hc;by_cases hs:sb=false
       ·subst hs;clear hcond
        go_wp2_with (first
         | (at_lookup;refine Zao _ rfl _ _ 67 rfl 9 4 (string_keyed Tryz.underlying9) Tryz.underlying67 okBool _ (zeroBool _) rfl gb q _ rfl HGM8.o _ _ rfl (WideMaps.keyOf_string_mk Tryz.underlying9 hpz) _ HGV.o ?_)
         | (at_builtin;refine Zaa _ rfl _ _ 23 rfl w6.heap.size 59 i0 _ 8 96 Tryz.underlying23 hi0 hy0 hy1 hy2 rfl (by omega) (.slice A6 m c6) m _ rfl (HRW8.o.alloc _) (w8.heap.size+1) (some ⟨w8.heap.size,0,none⟩) 1 1 (evC e) rfl HR9.o (fun h=>by cases h) (fun u hu=>Zb1 [e] u (by simpa using hu)) (by unfold maxLen;omega) (by omega) (by simp;omega) ?_;intro v9 w9 ho9 hg9 hv9)
         | fail)
        have HO9:=zh ho9;have hne:∀g:Nat,g<w6.heap.size->some g≠(Value.slice A6 m c6).ownBlock:=fun g hg e=>by have:=(HRW8.o.lt g e.symm).1;omega
        have HN1:Hid (mb<w6.heap.size/\gb<w6.heap.size/\r2<w6.heap.size):=zh (by have:=HWG.o;have:=HR6.o;omega);have HRG9:Hid (MapGoes Tryz.prog 116 okEv w9 mb r2 n M (fun z=>left z && !z.sameKey kl) cnt1):=zh ((HRG8.o.alloc _).grown hg9 (hne mb HN1.o.1) (hne r2 HN1.o.2.2));have HGM9:Hid (MapIs Tryz.prog 9 okBool w9 gb q (mapG (stG S))):=zh ((HGM8.o.alloc _).grown hg9 (hne gb HN1.o.2.1));have HB9:Hid (Below w.heap.size w w9):=zh ((HB8.o.alloc HB8.o.size _).grown hg9 (HB8.o.alloc HB8.o.size _).size (fun j hj=>by have:=(HRW8.o.lt j hj).1;have:=HN1.o;have:=HWG.o;omega));have HZ9:Hid (w6.heap.size<=w9.heap.size):=zh (by have:=hg9.size;simp at this;omega);clear ho9 hg9 hv9 hne;go_roundw
        case rel=>exact⟨_,cnt1,acc++[e],HRG9,HGM9,HYES,zh (by have:=HLT7.o;have:=HM.o;simp;omega),by rw[List.length_append,HM.o,Zg5];exact HO9,HB9,HZ9⟩
        case measure=>rw[HRG9.o.left_eq,HCL.o.2];exact HLT7.o
       ·obtain rfl:sb=true:=by cases sb <;> simp_all
        have z14:(e.kind == 14)=true:=hcond.resolve_left (by simp);clear hcond hs
        go_wp2_with (first
         | (at_lookup;refine Zao _ rfl _ _ 67 rfl 9 4 (string_keyed Tryz.underlying9) Tryz.underlying67 okBool _ (zeroBool _) rfl gb q _ rfl HGM8.o _ _ rfl (WideMaps.keyOf_string_mk Tryz.underlying9 hpz) _ HGV.o ?_)
         | (at_builtin;refine Zaa _ rfl _ _ 23 rfl w6.heap.size 59 i0 _ 8 96 Tryz.underlying23 hi0 hy0 hy1 hy2 rfl (by omega) (.slice A6 m c6) m _ rfl (HRW8.o.alloc _) (w8.heap.size+1) (some ⟨w8.heap.size,0,none⟩) 1 1 (evC e) rfl HR9.o (fun h=>by cases h) (fun u hu=>Zb1 [e] u (by simpa using hu)) (by unfold maxLen;omega) (by omega) (by simp;omega) ?_;intro v9 w9 ho9 hg9 hv9)
         | fail)
        have HO9:=zh ho9;have hne:∀g:Nat,g<w6.heap.size->some g≠(Value.slice A6 m c6).ownBlock:=fun g hg e=>by have:=(HRW8.o.lt g e.symm).1;omega
        have HN1:Hid (mb<w6.heap.size/\gb<w6.heap.size/\r2<w6.heap.size):=zh (by have:=HWG.o;have:=HR6.o;omega);have HRG9:Hid (MapGoes Tryz.prog 116 okEv w9 mb r2 n M (fun z=>left z && !z.sameKey kl) cnt1):=zh ((HRG8.o.alloc _).grown hg9 (hne mb HN1.o.1) (hne r2 HN1.o.2.2));have HGM9:Hid (MapIs Tryz.prog 9 okBool w9 gb q (mapG (stG S))):=zh ((HGM8.o.alloc _).grown hg9 (hne gb HN1.o.2.1));have HB9:Hid (Below w.heap.size w w9):=zh ((HB8.o.alloc HB8.o.size _).grown hg9 (HB8.o.alloc HB8.o.size _).size (fun j hj=>by have:=(HRW8.o.lt j hj).1;have:=HN1.o;have:=HWG.o;omega));have HZ9:Hid (w6.heap.size<=w9.heap.size):=zh (by have:=hg9.size;simp at this;omega);clear ho9 hg9 hv9 hne;go_roundw
        case rel=>exact⟨_,cnt1,acc++[e],HRG9,HGM9,HYES,zh (by have:=HLT7.o;have:=HM.o;simp;omega),by rw[List.length_append,HM.o,Zg5];exact HO9,HB9,HZ9⟩
        case measure=>rw[HRG9.o.left_eq,HCL.o.2];exact HLT7.o
   ·intro key kl e w6 cnt1 hlk hMk hrg6 hlt6 hg6 hs6 hen;have HBX:Hid (Below w.heap.size w w6):=zh (hbw.o.grown hg6 hbw.o.size (fun j hj=>by cases hj;have:=HWG.o;have:=HR5.o;omega));have HGM:Hid (MapIs Tryz.prog 9 okBool w6 gb q (mapG (stG S))):=zh (hgm.o.grown hg6 (fun e=>by injection e with e;have:=HR5.o;omega));have HRG:=zh hrg6;have HMK:=zh hMk
    have HEO:Hid (EvOk e):=zh (by
     obtain⟨e2,h1,_,h3⟩:=HLM.o.inv kl _ hMk;rw[Zb4 h1];exact HOK.o e2 (Zbp h3).1)
    obtain⟨w7,hw7⟩:=zG (w6.alloc (.cells (evArr e) 59));have HX7:Hid (Blk w7 w6.heap.size 59 (evArr e)):=zB hw7;have HB7:Hid (Below w.heap.size w w7):=zh (by rw[<-hw7];exact HBX.o.alloc HBX.o.size _);have HGM7:Hid (MapIs Tryz.prog 9 okBool w7 gb q (mapG (stG S))):=zh (by rw[<-hw7];exact HGM.o.alloc _);have HRG7:Hid (MapGoes Tryz.prog 116 okEv w7 mb r n M (fun z=>left z && !z.sameKey kl) cnt1):=zh (by rw[<-hw7];exact HRG.o.alloc _);obtain⟨-,-,-,x3,x4,-,-,-⟩:=zC8 HX7.o;have hpz:e.person.size<=maxLen:=by have:=HEO.o.2.2.1;unfold maxLen;omega
    have HLT6:Hid (cnt1<cnt):=zh hlt6;have HCL:Hid (w7.rangeLeft mb r=cnt1/\wq.rangeLeft mb r=cnt):=zh ⟨HRG7.o.left_eq,hrg.o.left_eq⟩;unfold evA at hen ⊢;unfold evArr at hw7;clear hlk hMk hrg6 hlt6 hg6 hs6 hrg hgm;by_cases hk:e.kind=14
    ·have z14:(e.kind == 14)=true:=by simp[hk]
     have HK:=zh hk;clear hk
     go_wp2_with (first
      | (at_mapUpdate;refine Zag _ rfl _ _ _ 67 rfl 9 4 (string_keyed Tryz.underlying9) Tryz.underlying67 okBool gb q _ rfl HGM7.o (by unfold maxLen;omega) _ (.bool true) _ rfl rfl (WideMaps.keyOf_string_mk Tryz.underlying9 hpz) rfl ?_;intro w8 hm8 hg8 hs8)
      | fail)
     have hne1:some mb≠some gb:=fun e=>by injection e with e;have:=HWG.o;omega
     have hne2:some r≠some gb:=fun e=>by injection e with e;have:=HR5.o;omega
     have HRG8:Hid (MapGoes Tryz.prog 116 okEv w8 mb r n M (fun z=>left z && !z.sameKey kl) cnt1):=zh (HRG7.o.grown hg8 hne1 hne2);have HM8:=zh (hm8.congr (Zgr S e.person));have HB8:Hid (Below w.heap.size w w8):=zh (HB7.o.grown hg8 HB7.o.size (fun j hj=>by cases hj;have:=HWG.o;omega));clear hm8 hg8 hs8
     (try simp only[Act.put])
     go_roundw
     case rel=>exact⟨_,cnt1,q+1,_,HRG8,HM8,zh (hgi.o.add HLM.o HMK.o HK.o),zh (by have:=HLT6.o;omega),HB8⟩
     case measure=>rw[HRG8.o.left_eq,HCL.o.2];exact HLT6.o
    ·have z14:(e.kind == 14)=false:=by simp[hk]
     have HK:=zh hk;clear hk;go_wp2_with fail;go_roundw
     case rel=>exact⟨_,cnt1,q,S,HRG7,HGM7,zh (hgi.o.skip HMK.o HK.o),zh (by have:=HLT6.o;omega),HB7⟩
     case measure=>rw[HCL.o.1,HCL.o.2];exact HLT6.o
end Go.Proofs.YtnpfaajhgghpgaaGreatDoor
namespace Go.Proofs.YtnpfaajhgghpgaaGreatDoor
open Ct (It St it0 st0 atP takesB catB stepSt rowOf uptoP ofN rowStep)
theorem Zep {l:List Ev}(h:SortedE l):l.Nodup:=h.imp (fun {a b} hab e=>by
 subst e;rw[Zgi]at hab;omega)
structure Closed (es:List Ev):Prop where
 sorted:SortedE es
 ids:OneIds es
 stay:∀e∈es,e.kind=14\/¬∃f∈es,f.kind=14/\f.person=e.person
theorem AnewIs.ids {fm:Ev->ByteArray}{l E:List Ev}(h:AnewIs fm l E):OneIds E:=by
 have h2:∀a∈E,∀b∈E,sameId a b->a=b:=fun a ha b hb hs=>by
  have h1:=((h.mem a).1 ha).1;have h3:=((h.mem b).1 hb).1;rw[hs.1,hs.2,h3]at h1;exact (Option.some.inj h1).symm
 have hn:=Zep h.sorted;refine (List.pairwise_iff_forall_sublist.2 fun {a b} hs hi=>?_);have hab:=h2 a (hs.subset (by simp)) b (hs.subset (by simp)) hi;subst hab;have:=List.Nodup.sublist hs hn;simp at this
theorem AnewIs.closed {fm:Ev->ByteArray}{l E:List Ev}(h:AnewIs fm l E):Closed E:=by
 refine⟨h.sorted,h.ids,fun e he=>?_⟩;rcases ((h.mem e).1 he).2 with h1|h1
 ·exact Or.inl h1
 ·refine Or.inr (fun ⟨f,hf,hk,hp⟩=>h1 ⟨f,((h.mem f).1 hf).1,hk,hp⟩)
structure OnTop (es cs:List Ev):Prop where
 ids:OneIds cs
 new:∀e∈es,∀c∈cs,¬sameId e c
 kind:∀c∈cs,c.kind≠14
 here:∀c∈cs,¬∃f∈es,f.kind=14/\f.person=c.person
theorem OnTop.one {es cs:List Ev}(h:OnTop es cs)(hc:Closed es):OneIds (es++cs):=
 List.pairwise_append.2 ⟨hc.ids,h.ids,fun a ha b hb=>h.new a ha b hb⟩
end Go.Proofs.YtnpfaajhgghpgaaGreatDoor
