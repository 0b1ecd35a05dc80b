/- A part of the joined base. -/
import Derived.Test.YtphmhbcimhlcjaaGreatDoorU39
set_option linter.unusedVariables false
set_option maxHeartbeats 8000000
set_option maxRecDepth 100000
namespace Go.Proofs.YtphmhbcimhlcjaaGreatDoor
open Go.Shelf Go.RowKit Go.Maps
open Ct (It St it0 st0 atP takesB catB stepSt rowOf uptoP ofN rowStep itA toldP Rising)
theorem rst_few {es:List Ev}(hs:SortedE es)(hok:∀e∈es,EvOk e)(n:ByteArray)(t:Int):(rx (rst (thgs es) n t)).tags.size<=300/\(rx (rst (thgs es) n t)).maker.size<=300:=by
 rw[rx_at (sorted_rise hs)];cases h:atP (thgs es) n t with
 | none=>exact⟨Nat.zero_le _,Nat.zero_le _⟩
 | some x=>
  rcases Zqx (m:=300) (fun e he=>(hok e he).1) (fun e he=>(hok e he).2.2.2.2) h with ⟨h1,h2,_⟩|⟨s,_,h1,h2,h3⟩
  ·show x.tags.size<=300/\x.maker.size<=300;rw[h1,h2];exact⟨Nat.zero_le _,Nat.zero_le _⟩
  ·show x.tags.size<=300/\x.maker.size<=300;rw[<-h1,<-h2];have:=Ze5 s;have:=Zip s;omega
theorem thgs_kind {es:List Ev}:∀e∈thgs es,e.kind=11\/e.kind=12\/e.kind=13:=fun e he=>of_decide_eq_true (Zax.1 he).2
theorem evf_len:∀l:List Ev,(l.flatMap evC).length=l.length*8
 | []=>rfl
 | x::l=>by rw[List.flatMap_cons,List.length_append,evf_len l,List.length_cons];show 8+_=_;omega
theorem evs_take {w:World}{B:Nat}{A:Option Addr}{l:List Ev}(h:EvsAt w B A l)(k:Nat)(hk:k<=l.length):EvsAt w B A (l.take k):=by
 refine⟨evf_len _,?_⟩;by_cases h0:k=0
 ·subst h0;exact Or.inl rfl
 ·obtain⟨g,o,hA,hg,hc⟩:=RowIn.at h (by omega);refine Or.inr ⟨g,o,hA,hg,fun j v hv=>hc j v ?_⟩;rw[<-List.take_append_drop k l,List.flatMap_append,List.getElem?_append_left (List.getElem?_eq_some_iff.1 hv).1];exact hv
theorem rit_size:(Tryz.prog.info? 110).map (·.size)=some 7:=by kernel_rfl
theorem rows_any (w:World)(B:Nat)(A:Option Addr)(l:List Ev)(n c:Nat)(hn:l.length=n)(hl:EvsAt w B A l)(hB:B<=w.heap.size)(hb:n<=1000)(hnc:n<=c)(hs:SortedE l)(hok:∀e∈l,EvOk e) :
  Calls Tryz.prog 50 #[.slice A n c] w fun e w'=>∃A' c' m,∃xl:List Rd,e = .returned (.slice A' m c')/\xl.length=m/\xl.map (·.e)=crE l/\w'.ownsRow w.heap.size 158 9 (.slice A' m c') m (xl.flatMap rdC)/\Below w.heap.size w w':=by
 have HN:=zh hn;have HL:=zh hl;have HNC:=zh hnc;have HSO:=zh hs;have HOK:=zh hok;obtain⟨i1,hi1,hy1,hy2,hy3⟩:=info_parts doc_info;obtain⟨w1,hw1⟩:=zG (w.alloc (.cells #[] 158));have HO1:Hid (w1.ownsRow w.heap.size 158 9 (.slice (some ⟨w.heap.size,0,none⟩) 0 0) 0 []):=zh (by rw[<-hw1];exact Zhl w _ _);have HB1:=zA hw1;clear hn hl hnc hs hok;go_enter Tryz.func50,Tryz.ntmps50;go_wp2_with fail;try rw[hw1]
 clear hw1;go_loopw [3,4] (fun ov iv wr=>∃(k m:Nat) (A':Option Addr) (c':Nat) (xl:List Rd),ov = .slice A' m c'/\iv = .int .i64 k/\k<=n/\m<=k/\Hid (wr.ownsRow w.heap.size 158 9 (.slice A' m c') m (xl.flatMap rdC))/\Hid (xl.length=m/\xl.map (·.e)=crE (l.take k))/\Hid (Below w.heap.size w wr)) (fun _ iv _=>n - (intOf iv).toNat)
 case atStart=>exact⟨0,0,_,0,[],rfl,rfl,Nat.zero_le _,zr _,HO1,zh ⟨rfl,rfl⟩,HB1⟩
 case round=>
  clear HO1 HB1;obtain⟨k,m,A5,c5,xl,rfl,rfl,hk,hmk,HO,HXL,HBR⟩:=hrel;by_cases hlt:k<n
  ·obtain⟨z,hz⟩:∃z,l[k]? = some z:=⟨l[k]'(by rw[HN.o];exact hlt),List.getElem?_eq_getElem _⟩
   obtain⟨g,o,rfl,hgB,hcl⟩:=HL.o.at (by rw[HN.o];omega);obtain⟨e0,e1,e2,e3,e4,e5,e6,e7⟩:EvAt wr g (o+k*8) z:=(hcl k z hz).keep (fun q=>HBR.o.cell (p:=⟨g,q,none⟩) (Nat.lt_of_lt_of_le hgB hB));have HCS:Hid (crE (l.take (k+1))=if z.kind<11 then crE (l.take k)++[z] else crE (l.take k)):=zh (by rw[Zbd hz,crE_snoc]);have HZO:=zh (HOK.o z (List.mem_of_getElem? hz));have hk8:(k:Int)<(n:Int):=by omega
   have hk9:(0:Int)<=(k:Int):=by omega
   have hkc:(k:Int)<=(c:Int):=by have:=HNC.o;omega
   have HC0:Hid (¬c=0):=zh (by have:=HNC.o;omega);obtain⟨w5,hw5⟩:=zG (wr.alloc (.cells #[.string z.src,.int .i64 z.num,.int .i64 z.tick,.int .i64 z.kind,.string z.person,.string z.item,.int .i64 z.value,.string z.text] 66));have HE5:Hid (Blk w5 wr.heap.size 66 (evArr z)):=zB hw5;have HB5:Hid (Below w.heap.size w w5):=zh (by rw[<-hw5];exact HBR.o.alloc HBR.o.size _);have HO5:Hid (w5.ownsRow w.heap.size 158 9 (.slice A5 m c5) m (xl.flatMap rdC)):=zh (by rw[<-hw5];exact HO.o.alloc _)
   have HEC5:Hid (∀W,Below w5.heap.size w5 W->EvAt W wr.heap.size 0 z):=zh (fun W hb=>by
    have h:Blk W wr.heap.size 66 (evArr z):=(hb.block _ HE5.o.lt).trans HE5.o;exact⟨h.cell 0,h.cell 1,h.cell 2,h.cell 3,h.cell 4,h.cell 5,h.cell 6,h.cell 7⟩)
   clear hcl hz;by_cases hkd:z.kind<11
   rotate_left
   ·have HS1:Hid (xl.length=m/\xl.map (·.e)=crE (l.take (k+1))):=zh ⟨HXL.o.1,by rw[HCS.o,if_neg hkd];exact HXL.o.2⟩;have d1:decide ((11:Int)<=z.kind)=true:=decide_eq_true (by omega);have d2:(11:Int)<=z.kind:=by omega
    have e3':World.cell? w5 ⟨wr.heap.size,3,none⟩=some (.int .i64 z.kind):=(HEC5.o w5 (Below.refl _ _)).2.2.2.1;clear hkd;go_wp2_with fail;go_roundw
    case rel=>exact⟨k+1,m,A5,c5,xl,rfl,by go_num,by omega,by omega,HO5,HS1,HB5⟩
    case measure=>simp[intOf];omega
   have HKD:=zh hkd;have d1:decide ((11:Int)<=z.kind)=false:=decide_eq_false (by omega);have d2:¬(11:Int)<=z.kind:=by omega
   have e3':World.cell? w5 ⟨wr.heap.size,3,none⟩=some (.int .i64 z.kind):=(HEC5.o w5 (Below.refl _ _)).2.2.2.1;obtain⟨w6,hw6⟩:=zG (w5.alloc (.cells #[] 9));have HB56:=zA hw6;clear hkd;have e5':World.cell? w6 ⟨wr.heap.size,5,none⟩=some (.string z.item):=(HEC5.o w6 HB56.o).2.2.2.2.2.1;go_upto_if 26 with fail;try rw[hw5]
   try rw[hw6]
   obtain⟨eb,heb⟩:=zG (wr.heap.size);rw[heb]at HEC5 HE5;try rw[heb]
   have HEC:Hid (∀W,Below w6.heap.size w6 W->EvAt W eb 0 z):=zh (fun W hb=>HEC5.o W (HB56.o.trans (hb.mono HB56.o.size)));have HB6:=zT HB5 HB56.o;have HEV:Hid (∀W,Below w6.heap.size w6 W->EvsAt W B (some ⟨g,o,none⟩) (l.take k)):=zh (fun W hb=>(evs_take HL.o k (by rw[HN.o];omega)).below ((HB6.o.trans (hb.mono HB6.o.size)).mono hB));have HTH:Hid (∀W,Below w6.heap.size w6 W->Calls Tryz.prog 49 #[.slice (some ⟨g,o,none⟩) k c] W fun e w'=>∃A' c' m,e = .returned (.slice A' m c')/\(thgs (l.take k)).length=m/\w'.ownsRow W.heap.size 66 8 (.slice A' m c') m ((thgs (l.take k)).flatMap evC)/\Below W.heap.size W w'):=zh (fun W hb=>rthings_any W B _ (l.take k) k c (by rw[List.length_take,HN.o];omega) (HEV.o W hb) (by have:=hb.size;have:=HB6.o.size;omega) (by omega));have HFW:Hid (∀e∈thgs (l.take k),EvOk e):=zh (fun e he=>HOK.o e (List.mem_of_mem_take (Zax.1 he).1));have HRF:Hid ((rx (rst (thgs (l.take k)) z.item z.tick)).tags.size<=300/\(rx (rst (thgs (l.take k)) z.item z.tick)).maker.size<=300):=zh (rst_few (List.Pairwise.sublist (List.take_sublist _ _) HSO.o) (fun e he=>HOK.o e (List.mem_of_mem_take he)) z.item z.tick);have HTL:Hid ((thgs (l.take k)).length<=1000):=zh (by have:=Zdo (l.take k);rw[List.length_take]at this;omega);obtain⟨tl,htl⟩:=zG (thgs (l.take k));have HKN:Hid (∀e∈tl,e.kind=11\/e.kind=12\/e.kind=13):=zh (by rw[<-htl];exact thgs_kind);rw[htl]at HTH HFW HRF HTL;obtain⟨⟨q0,q1,q2,q3,q4,q5,q6⟩,hqx⟩:∃x,rx (rst tl z.item z.tick)=x:=⟨_,rfl⟩
   obtain⟨qb,hqb⟩:=zG ((rst tl z.item z.tick).isSome)
   have HAT:Hid (∀W A' m c',tl.length=m->EvsAt W W.heap.size A' tl->Calls Tryz.prog 48 #[.slice A' m c',.string z.item,.int .i64 z.tick] W fun e w'=>e = .returned (.tuple #[.agg #[.string q0,.string q1,.string q2,.int .i64 q3,.int .i64 q4,.int .i64 q5,.bool q6],.bool qb])/\Below W.heap.size W w'):=zh (fun W A' m c' hm ha=>by
    have h:=refat_any W W.heap.size A' tl m c' z.item z.tick hm ha (zr _) (by have:=HTL.o;omega) (fun e he=>(HFW.o e he).sh) HKN.o;unfold rtoldP itA at h;rw[hqx,hqb]at h;exact h)
   rw[hqx]at HRF;have HRF2:Hid (q2.size<=300):=zh HRF.o.1;clear e3' e5';clear hqx hqb htl HRF hw5 hw6 heb HEC5 e0 e1 e2 e3 e4 e5 e6 e7;go_cut [6] (fun v wx=>∃At nt ct,v = .slice At nt ct/\Hid (Below w6.heap.size w6 wx))
   case first=>
    by_cases hi:z.item=⟨#[]⟩
    ·have z1:z.item.toList.isEmpty=true:=by rw[Zcj,decide_eq_true hi]
     clear hi;try rw[z1]
     go_wp2_with fail;go_meet;exact⟨_,_,_,rfl,zh (Below.refl _ _)⟩
    ·have z1:z.item.toList.isEmpty=false:=by rw[Zcj,decide_eq_false hi]
     clear hi;try rw[z1]
     go_wp2_with fail;go_cut [7] (fun v wx=>∃gb,v = .pointer (some ⟨gb,0,none⟩)/\Hid (World.cell? wx ⟨gb,2,none⟩=some (.string q2))/\Hid (Below w6.heap.size w6 wx))
     case first=>
      refine Zgw (fun W=>Below w6.heap.size w6 W) (.take 0 (.take 1 (.take 2 (.take 4 (.take 5 (.take 6 (.take 7 (.fork 3 (.fork 8 (.take 9 (.take 10 (.take 11 (.turn 12 (.turn 13 (.take 14 .done)))))) 12 (.turn 8 (.take 9 (.take 10 (.take 11 (.turn 13 (.take 14 .done))))))) 12 (.turn 3 (.turn 8 (.take 9 (.take 10 (.take 11 (.turn 13 (.take 14 .done))))))))))))))) (by kernel_rfl) (by kernel_rfl) (below_drew (Below.refl _ _)) ?_;simp only[planTL,xq4,xq5];obtain⟨wd,hwd⟩:=zG (w6.drew);have HBD:=zD hwd;rw[hwd];clear hwd
      iterate 2 (refine Zal _ (by rfl) (fun W hW=>by (go_simp;try with_reducible rfl)) ?_;simp only[Act.put,xq1,xq2,xq3])
      refine Zal (.slice (some ⟨g,o,none⟩) k c) (by rfl) (fun W hW=>by
       have hc0:=HC0.o;go_simp;try simp[hc0]) ?_
      simp only[Act.put,xq1,xq2,xq3]
      repeat ((first|(refine Zal _ (by rfl) (fun W hW=>by (obtain⟨x0,x1,x2,x3,x4,x5,x6,x7⟩:=HEC.o W hW;go_simp;try with_reducible rfl)) ?_)|(refine planT_off (by rfl) ?_));simp only[Act.put,xq1,xq2,xq3])
      refine Zcc ?_ ?_
      ·have HCv1:=zh (HTH.o wd HBD.o);go_wp2_with fail;refine HCv1.o.mono ?_;rintro e v1 ⟨Av1,cv1,mv1,rfl,hlv1,hov1,hbv1⟩;have HEv1:=zT HBD hbv1;have HLv1:Hid (tl.length=mv1):=zh hlv1;have HRv1:Hid (EvsAt v1 v1.heap.size Av1 tl):=zh (by unfold EvsAt;rw[hlv1];exact RowIn.of_own hov1);clear hbv1 hov1 hlv1 HCv1;go_wp2_with fail;refine⟨HEv1.o,?_⟩
       repeat ((first|(refine Zal _ (by rfl) (fun W hW=>by (obtain⟨x0,x1,x2,x3,x4,x5,x6,x7⟩:=HEC.o W hW;go_simp;try with_reducible rfl)) ?_)|(refine planT_off (by rfl) ?_));simp only[Act.put,xq1,xq2,xq3])
       refine Zcc ?_ ?_
       ·have HCv2:=zh (HAT.o v1 Av1 mv1 cv1 HLv1.o HRv1.o);go_wp2_with fail;refine HCv2.o.mono ?_;rintro e v2 ⟨rfl,hbv2⟩;have HEv2:=zT HEv1 hbv2;clear hbv2 HCv2;go_wp2_with fail;refine⟨HEv2.o,?_⟩
        repeat ((first|(refine Zal _ (by rfl) (fun W hW=>by (obtain⟨x0,x1,x2,x3,x4,x5,x6,x7⟩:=HEC.o W hW;go_simp;try with_reducible rfl)) ?_)|(refine planT_off (by rfl) ?_));simp only[Act.put,xq1,xq2,xq3])
        refine Zap ?_;obtain⟨gv3,hgv3⟩:=zG (v2.heap.size);obtain⟨v3,hav3⟩:=zG (v2.alloc (.cells #[.string ⟨#[]⟩,.string ⟨#[]⟩,.string ⟨#[]⟩,.int .i64 0,.int .i64 0,.int .i64 0,.bool false] 110));have HXv3:Hid (Blk v3 gv3 110 #[.string ⟨#[]⟩,.string ⟨#[]⟩,.string ⟨#[]⟩,.int .i64 0,.int .i64 0,.int .i64 0,.bool false]):=zh (by rw[<-hav3,<-hgv3];exact Blk.new _ _ _);have HEv3:Hid (Below w6.heap.size w6 v3):=zh (by rw[<-hav3];exact HEv2.o.alloc HEv2.o.size _);have HGv3:Hid (w6.heap.size<=gv3):=zh (by rw[<-hgv3];exact HEv2.o.size);go_wp2_with fail;try rw[hgv3]
        try rw[hav3]
        clear hgv3 hav3;refine⟨HEv3.o,?_⟩
        repeat ((first|(refine Zal _ (by rfl) (fun W hW=>by (obtain⟨x0,x1,x2,x3,x4,x5,x6,x7⟩:=HEC.o W hW;go_simp;try with_reducible rfl)) ?_)|(refine planT_off (by rfl) ?_));simp only[Act.put,xq1,xq2,xq3])
        refine Zap ?_;refine Zad v3 rfl 110 _ _ rfl 0 #[.string q0,.string q1,.string q2,.int .i64 q3,.int .i64 q4,.int .i64 q5,.bool q6] rfl rfl HXv3.o (by show 0+7<=7;omega) rit_size (by simp[Value.oneCell']) ?_;intro v4 hbv4 hkv4 hzv4;simp only[putA,xq1,xq2,xq3]at hbv4;have HXv4:Hid (World.cell? v4 ⟨gv3,2,none⟩=some (.string q2)):=zh (by have h:Blk v4 gv3 110 #[.string q0,.string q1,.string q2,.int .i64 q3,.int .i64 q4,.int .i64 q5,.bool q6]:=hbv4;exact h.cell 2);have HEv4:Hid (Below w6.heap.size w6 v4):=zh (HEv3.o.trans (hkv4.toBelow (fun i hi=>by rw[hi];exact HGv3.o) HEv3.o.size));clear hbv4 hkv4 hzv4;refine⟨HEv4.o,?_⟩
        repeat ((first|(refine Zal _ (by rfl) (fun W hW=>by (obtain⟨x0,x1,x2,x3,x4,x5,x6,x7⟩:=HEC.o W hW;go_simp;try with_reducible rfl)) ?_)|(refine planT_off (by rfl) ?_));simp only[Act.put,xq1,xq2,xq3])
        refine Zbf ?_;go_wp2_with fail;go_meet;exact⟨gv3,rfl,HXv4,HEv4⟩
       ·obtain⟨gv5,hgv5⟩:=zG (v1.heap.size);obtain⟨v5,hav5⟩:=zG (v1.alloc (.cells #[.string ⟨#[]⟩,.string ⟨#[]⟩,.string ⟨#[]⟩,.int .i64 0,.int .i64 0,.int .i64 0,.bool false] 110));have HXv5:Hid (Blk v5 gv5 110 #[.string ⟨#[]⟩,.string ⟨#[]⟩,.string ⟨#[]⟩,.int .i64 0,.int .i64 0,.int .i64 0,.bool false]):=zh (by rw[<-hav5,<-hgv5];exact Blk.new _ _ _);have HEv5:Hid (Below w6.heap.size w6 v5):=zh (by rw[<-hav5];exact HEv1.o.alloc HEv1.o.size _);have HGv5:Hid (w6.heap.size<=gv5):=zh (by rw[<-hgv5];exact HEv1.o.size);have HRv5:Hid (EvsAt v5 v5.heap.size Av1 tl):=zh (by rw[<-hav5];exact RowIn.more (RowIn.below HRv1.o ((Below.refl _ _).alloc (zr _) _)) (by simp));go_wp2_with fail;try rw[hgv5]
        try rw[hav5]
        clear hgv5 hav5;refine⟨HEv5.o,?_⟩
        repeat ((first|(refine Zal _ (by rfl) (fun W hW=>by (obtain⟨x0,x1,x2,x3,x4,x5,x6,x7⟩:=HEC.o W hW;go_simp;try with_reducible rfl)) ?_)|(refine planT_off (by rfl) ?_));simp only[Act.put,xq1,xq2,xq3])
        refine Zap ?_;have HCv6:=zh (HAT.o v5 Av1 mv1 cv1 HLv1.o HRv5.o);go_wp2_with fail;refine HCv6.o.mono ?_;rintro e v6 ⟨rfl,hbv6⟩;have HEv6:=zT HEv5 hbv6;have HXv6:Hid (Blk v6 gv5 110 #[.string ⟨#[]⟩,.string ⟨#[]⟩,.string ⟨#[]⟩,.int .i64 0,.int .i64 0,.int .i64 0,.bool false]):=zX HXv5 hbv6;clear hbv6 HCv6;go_wp2_with fail;refine⟨HEv6.o,?_⟩
        repeat ((first|(refine Zal _ (by rfl) (fun W hW=>by (obtain⟨x0,x1,x2,x3,x4,x5,x6,x7⟩:=HEC.o W hW;go_simp;try with_reducible rfl)) ?_)|(refine planT_off (by rfl) ?_));simp only[Act.put,xq1,xq2,xq3])
        refine Zap ?_;refine Zad v6 rfl 110 _ _ rfl 0 #[.string q0,.string q1,.string q2,.int .i64 q3,.int .i64 q4,.int .i64 q5,.bool q6] rfl rfl HXv6.o (by show 0+7<=7;omega) rit_size (by simp[Value.oneCell']) ?_;intro v7 hbv7 hkv7 hzv7;simp only[putA,xq1,xq2,xq3]at hbv7;have HXv7:Hid (World.cell? v7 ⟨gv5,2,none⟩=some (.string q2)):=zh (by have h:Blk v7 gv5 110 #[.string q0,.string q1,.string q2,.int .i64 q3,.int .i64 q4,.int .i64 q5,.bool q6]:=hbv7;exact h.cell 2);have HEv7:Hid (Below w6.heap.size w6 v7):=zh (HEv6.o.trans (hkv7.toBelow (fun i hi=>by rw[hi];exact HGv5.o) HEv6.o.size));clear hbv7 hkv7 hzv7;refine⟨HEv7.o,?_⟩
        repeat ((first|(refine Zal _ (by rfl) (fun W hW=>by (obtain⟨x0,x1,x2,x3,x4,x5,x6,x7⟩:=HEC.o W hW;go_simp;try with_reducible rfl)) ?_)|(refine planT_off (by rfl) ?_));simp only[Act.put,xq1,xq2,xq3])
        refine Zbf ?_;go_wp2_with fail;go_meet;exact⟨gv5,rfl,HXv7,HEv7⟩
      ·obtain⟨gv8,hgv8⟩:=zG (wd.heap.size);obtain⟨v8,hav8⟩:=zG (wd.alloc (.cells #[.string ⟨#[]⟩,.string ⟨#[]⟩,.string ⟨#[]⟩,.int .i64 0,.int .i64 0,.int .i64 0,.bool false] 110));have HXv8:Hid (Blk v8 gv8 110 #[.string ⟨#[]⟩,.string ⟨#[]⟩,.string ⟨#[]⟩,.int .i64 0,.int .i64 0,.int .i64 0,.bool false]):=zh (by rw[<-hav8,<-hgv8];exact Blk.new _ _ _);have HEv8:Hid (Below w6.heap.size w6 v8):=zh (by rw[<-hav8];exact HBD.o.alloc HBD.o.size _);have HGv8:Hid (w6.heap.size<=gv8):=zh (by rw[<-hgv8];exact HBD.o.size);go_wp2_with fail;try rw[hgv8]
       try rw[hav8]
       clear hgv8 hav8;refine⟨HEv8.o,?_⟩
       repeat ((first|(refine Zal _ (by rfl) (fun W hW=>by (obtain⟨x0,x1,x2,x3,x4,x5,x6,x7⟩:=HEC.o W hW;go_simp;try with_reducible rfl)) ?_)|(refine planT_off (by rfl) ?_));simp only[Act.put,xq1,xq2,xq3])
       refine Zap ?_;have HCv9:=zh (HTH.o v8 HEv8.o);go_wp2_with fail;refine HCv9.o.mono ?_;rintro e v9 ⟨Av9,cv9,mv9,rfl,hlv9,hov9,hbv9⟩;have HEv9:=zT HEv8 hbv9;have HLv9:Hid (tl.length=mv9):=zh hlv9;have HRv9:Hid (EvsAt v9 v9.heap.size Av9 tl):=zh (by unfold EvsAt;rw[hlv9];exact RowIn.of_own hov9);have HXv9:Hid (Blk v9 gv8 110 #[.string ⟨#[]⟩,.string ⟨#[]⟩,.string ⟨#[]⟩,.int .i64 0,.int .i64 0,.int .i64 0,.bool false]):=zX HXv8 hbv9;clear hbv9 hov9 hlv9 HCv9;go_wp2_with fail;refine⟨HEv9.o,?_⟩
       repeat ((first|(refine Zal _ (by rfl) (fun W hW=>by (obtain⟨x0,x1,x2,x3,x4,x5,x6,x7⟩:=HEC.o W hW;go_simp;try with_reducible rfl)) ?_)|(refine planT_off (by rfl) ?_));simp only[Act.put,xq1,xq2,xq3])
       refine Zap ?_;have HCv10:=zh (HAT.o v9 Av9 mv9 cv9 HLv9.o HRv9.o);go_wp2_with fail;refine HCv10.o.mono ?_;rintro e v10 ⟨rfl,hbv10⟩;have HEv10:=zT HEv9 hbv10;have HXv10:Hid (Blk v10 gv8 110 #[.string ⟨#[]⟩,.string ⟨#[]⟩,.string ⟨#[]⟩,.int .i64 0,.int .i64 0,.int .i64 0,.bool false]):=zX HXv9 hbv10;clear hbv10 HCv10;go_wp2_with fail;refine⟨HEv10.o,?_⟩
       repeat ((first|(refine Zal _ (by rfl) (fun W hW=>by (obtain⟨x0,x1,x2,x3,x4,x5,x6,x7⟩:=HEC.o W hW;go_simp;try with_reducible rfl)) ?_)|(refine planT_off (by rfl) ?_));simp only[Act.put,xq1,xq2,xq3])
       refine Zap ?_;refine Zad v10 rfl 110 _ _ rfl 0 #[.string q0,.string q1,.string q2,.int .i64 q3,.int .i64 q4,.int .i64 q5,.bool q6] rfl rfl HXv10.o (by show 0+7<=7;omega) rit_size (by simp[Value.oneCell']) ?_;intro v11 hbv11 hkv11 hzv11;simp only[putA,xq1,xq2,xq3]at hbv11;have HXv11:Hid (World.cell? v11 ⟨gv8,2,none⟩=some (.string q2)):=zh (by have h:Blk v11 gv8 110 #[.string q0,.string q1,.string q2,.int .i64 q3,.int .i64 q4,.int .i64 q5,.bool q6]:=hbv11;exact h.cell 2);have HEv11:Hid (Below w6.heap.size w6 v11):=zh (HEv10.o.trans (hkv11.toBelow (fun i hi=>by rw[hi];exact HGv8.o) HEv10.o.size));clear hbv11 hkv11 hzv11;refine⟨HEv11.o,?_⟩
       repeat ((first|(refine Zal _ (by rfl) (fun W hW=>by (obtain⟨x0,x1,x2,x3,x4,x5,x6,x7⟩:=HEC.o W hW;go_simp;try with_reducible rfl)) ?_)|(refine planT_off (by rfl) ?_));simp only[Act.put,xq1,xq2,xq3])
       refine Zbf ?_;go_wp2_with fail;go_meet;exact⟨gv8,rfl,HXv11,HEv11⟩
     case rest=>
     obtain⟨gb,rfl,HT2,HB7⟩:=hcut;obtain⟨w7,rfl⟩:=zH wc;have t2:=HT2.o;have hq2:=HRF2.o;have HC:=zh (Zn1 (⟨#[59]⟩++q2) w7 (by rw[ByteArray.size_append];show 1+_<=_;omega));go_wp2_with fail;refine HC.o.mono ?_;rintro e w8 ⟨A8,c8,rfl,_,hb8⟩;have HB8:=zT HB7 hb8;clear hb8 HC t2;go_wp2_with fail;go_meet;exact⟨_,_,_,rfl,HB8⟩
   case rest=>
   obtain⟨At,nt,ct,rfl,HB7⟩:=hcut;obtain⟨w7,rfl⟩:=zH wc;obtain⟨e0',e1',e2',e3'',e4',e5',e6',e7'⟩:=HEC.o w7 HB7.o;have HB57:=zT HB56 HB7.o;have HO7:Hid (w7.ownsRow w.heap.size 158 9 (.slice A5 m c5) m (xl.flatMap rdC)):=zh (owns_kept HO5.o (below_kept (S:=fun _=>False) HB57.o (zr _)) (fun _ _ h=>h));have HBW7:=zT HB5 HB57.o;have HR1:Hid (RowIn (w7.alloc (.cells (rdAr ⟨z,At,nt,ct⟩) 158)) (w7.heap.size+1) 9 (some ⟨w7.heap.size,0,none⟩) 1 (rdC ⟨z,At,nt,ct⟩)):=zh (one_rd w7 ⟨z,At,nt,ct⟩ _);have HS1:Hid ((xl++[(⟨z,At,nt,ct⟩:Rd)]).length=m+1/\(xl++[(⟨z,At,nt,ct⟩:Rd)]).map (·.e)=crE (l.take (k+1))):=zh ⟨by rw[List.length_append,HXL.o.1];rfl,by rw[HCS.o,if_pos HKD.o,List.map_append,HXL.o.2];rfl⟩;have hz7:w.heap.size<=w7.heap.size+1:=by have:=HBW7.o.size;omega
   unfold rdAr at HR1
   go_wp2_with (first
    | (at_builtin;refine Zaa _ rfl _ _ 113 rfl w.heap.size 158 i1 _ 9 120 Tryz.underlying113 hi1 hy1 hy2 hy3 rfl (by omega) (.slice A5 m c5) m _ rfl (HO7.o.alloc _) (w7.heap.size+1) (some ⟨w7.heap.size,0,none⟩) 1 1 (rdC ⟨z,At,nt,ct⟩) rfl HR1.o (fun h=>by cases h) (fun u hu=>Zrz [⟨z,At,nt,ct⟩] u (by simpa using hu)) (by unfold maxLen;omega) (by omega) (by simp;omega) ?_;intro v9 w9 ho9 hg9 hv9)
    | fail)
   obtain⟨A9,c9,rfl⟩:=own_shape ho9;have HO9:=zh ho9;have HOB:=zh HO7.o;have HB9:Hid (Below w.heap.size w w9):=zh ((HBW7.o.alloc HBW7.o.size _).grown hg9 (HBW7.o.alloc HBW7.o.size _).size (fun j hj=>(Zd1 HOB.o hj).1));clear ho9 hg9 hv9;go_wp2_with fail;go_roundw
   case rel=>exact⟨k+1,m+1,A9,c9,xl++[⟨z,At,nt,ct⟩],rfl,by go_num,by omega,by omega,zh (by rw[List.flatMap_append];simpa using HO9.o),HS1,HB9⟩
   case measure=>simp[intOf];omega
  ·obtain rfl:n=k:=by omega
   have hkk:¬(n:Int)<(n:Int):=by omega
   have HE:Hid (crE (l.take n)=crE l):=zh (by rw[<-HN.o,List.take_length]);clear hlt;go_wp2_with fail;go_ret;exact⟨A5,c5,m,rfl,xl,HXL.o.1,by rw[<-HE.o];exact HXL.o.2,HO.o,HBR.o⟩
end Go.Proofs.YtphmhbcimhlcjaaGreatDoor
namespace Go.Proofs.YtphmhbcimhlcjaaGreatDoor
open Go.Shelf Go.RowKit Go.Maps
open Ru (digW Zak)
theorem itoa_dig (n:Nat):itoaB (n:Int)=digW n:=by unfold itoaB digW;rw[Lib.itoa_nonneg]
def DigTo (m n:Nat)(s:ByteArray):Prop:=digW m=digW n++s
theorem DigTo.start (m:Nat):DigTo m m ⟨#[]⟩:=by
 unfold DigTo;apply ba_eq;simp[ByteArray.data_append]
theorem DigTo.next {m n:Nat}{s:ByteArray}(h:DigTo m n s)(hn:10<=n):DigTo m (n / 10) (⟨#[UInt8.ofNat (48+n % 10)]⟩++s):=by
 unfold DigTo at h ⊢;rw[h];apply ba_eq;simp only[ByteArray.data_append,Array.toList_append,Zak]
 conv=>lhs;rw[Lib.decDigits,dif_neg (by omega)]
 simp
theorem DigTo.fin {m n:Nat}{s:ByteArray}(h:DigTo m n s)(hn:n<10):digW m=⟨#[UInt8.ofNat (48+n)]⟩++s:=by
 unfold DigTo at h;rw[h];apply ba_eq;simp only[ByteArray.data_append,Array.toList_append,Zak];rw[Lib.decDigits,dif_pos hn]
theorem dig_small {n:Nat}(hn:n<=2000000000000):(digW n).size<=21:=by
 have:=Zee (n:=(n:Int)) ⟨by omega,by omega⟩
 rwa [itoa_dig]at this
theorem DigTo.few {m n:Nat}{s:ByteArray}(h:DigTo m n s)(hm:m<=2000000000000):s.size<=21:=by
 have h1:=dig_small hm;unfold DigTo at h;rw[h,ByteArray.size_append]at h1;omega
theorem one_back (w:World)(b:UInt8)(z:Int)(hz:z=(b.toNat:Int)):(convert 162 9 (.slice (some ⟨w.heap.size,0,none⟩) 1 1)).run Tryz.prog (w.alloc (.cells #[.int .u8 z] 5)) = .ok (.string ⟨#[b]⟩) (w.alloc (.cells #[.int .u8 z] 5)):=by
 subst hz;have HK:Blk (w.alloc (.cells #[.int .u8 (b.toNat:Int)] 5)) w.heap.size 5 #[.int .u8 (b.toNat:Int)]:=Blk.new _ _ _
 exact run_convert_bytes_back (P:=Tryz.prog) _ 162 9 5 ⟨w.heap.size,0,none⟩ 1 [b] Tryz.underlying162 Tryz.underlying5 Tryz.underlying9 (fun j hj=>by
  obtain rfl:j=0:=by simpa using hj
  exact HK.cell 0)
theorem rdigits_any (n:Nat)(w:World)(hn:n<=2000000000000) :
  Calls Tryz.prog 54 #[.int .i64 n] w fun e w'=>e = .returned (.string (digW n))/\Below w.heap.size w w':=by
 go_enter Tryz.func54,Tryz.ntmps54;go_wp2_with fail;go_loopw [0,3] (fun i s wr=>∃(k:Nat) (t:ByteArray),k<=n/\i = .int .i64 k/\s = .string t/\t.size<=21/\Hid (DigTo n k t)/\Hid (Below w.heap.size w wr)) (fun i _ _=>(intOf i).toNat)
 case atStart=>exact⟨n,⟨#[]⟩,zr _,rfl,rfl,by decide,zh (DigTo.start n),zh (Below.refl _ _)⟩
 case round=>
  obtain⟨k,t,hk,rfl,rfl,hts,hdg,hbw⟩:=hrel;have hzw:=hbw.o.size;by_cases hlt:9<k
  ·have h9:(9:Int)<(k:Int):=by omega
   obtain⟨b,hb⟩:=zG (UInt8.ofNat (48+k % 10):UInt8);have hbn:48+(k:Int) % 10=(b.toNat:Int):=by
    rw[<-hb,UInt8.toNat_ofNat_of_lt' (by show _<256;omega)];omega
   have hcv:=one_back wr b _ hbn;have HD:Hid (DigTo n (k / 10) (⟨#[b]⟩++t)):=zh (by rw[<-hb];exact hdg.o.next (by omega));have HS:Hid ((⟨#[b]⟩++t:ByteArray).size<=21):=zh (HD.o.few hn);have HBW:Hid (Below w.heap.size w (wr.alloc (.cells #[.int .u8 (48+(k:Int) % 10)] 5))):=zh (hbw.o.alloc hzw _);have hb1:(⟨#[b]⟩:ByteArray).size=1:=rfl;clear hbn hb;go_wp2_with fail;go_roundw
   case rel=>exact⟨k / 10,_,by omega,by go_num,rfl,HS.o,HD,HBW⟩
   case measure=>simp[intOf];omega
  ·obtain⟨b,hb⟩:=zG (UInt8.ofNat (48+k):UInt8);have hbn:48+(k:Int)=(b.toNat:Int):=by
    rw[<-hb,UInt8.toNat_ofNat_of_lt' (by show _<256;omega)];omega
   have hcv:=one_back wr b _ hbn;have HD:Hid (digW n=⟨#[b]⟩++t):=zh (by rw[<-hb];exact hdg.o.fin (by omega));have HBW:Hid (Below w.heap.size w (wr.alloc (.cells #[.int .u8 (48+(k:Int))] 5))):=zh (hbw.o.alloc hzw _);have hb1:(⟨#[b]⟩:ByteArray).size=1:=rfl;clear hbn hb;go_wp2_with fail;go_ret;exact⟨congrArg (fun s=>Ending.returned (Value.string s)) HD.o.symm,HBW.o⟩
end Go.Proofs.YtphmhbcimhlcjaaGreatDoor
