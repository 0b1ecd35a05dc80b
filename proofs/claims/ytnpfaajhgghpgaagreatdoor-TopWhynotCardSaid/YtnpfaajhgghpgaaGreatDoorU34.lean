/- A part of the joined base. -/
import Derived.Test.YtnpfaajhgghpgaaGreatDoorU33
set_option linter.unusedVariables false
set_option maxHeartbeats 8000000
set_option maxRecDepth 100000
namespace Go.Proofs.YtnpfaajhgghpgaaGreatDoor
open Go.Shelf Go.RowKit Go.Maps
open Ru (Fz fzA fzX Nd holdsR)
def knownT (E:List Ev)(k:Nat):ByteArray->Bool:=fun y=>(E.take k).any fun e=>decide (e.person=y)
theorem Zjm {E:List Ev}{k:Nat}{x:Ev}(h:E[k]? = some x):knownT E (k+1)=fun y=>knownT E k y || decide (y=x.person):=by
 funext y
 unfold knownT;rw[Zbd h,List.any_append];simp[eq_comm]
theorem Zom {E:List Ev}{n:Nat}(h:E.length=n):knownT E n=knownB E:=by
 funext y
 unfold knownT knownB;rw[<-h,List.take_length]
def newT (E:List Ev)(k:Nat):List Nat:=(List.range' 1 k).filter fun j=>!knownB E (nS j)
theorem Zon (E:List Ev)(k:Nat):newT E (k+1)=newT E k++if knownB E (nS (k+1)) then [] else [k+1]:=by
 unfold newT;rw[List.range'_concat,List.filter_append,Nat.one_mul,Nat.add_comm 1 k];cases h:knownB E (nS (k+1)) <;> simp[h]
theorem Ztc {E:List Ev}{k m n:Nat}(h:(newT E k).length=m)(hm:m<n):k+1<=E.length+n:=by
 have:=Zfl E k;unfold newT at h;omega
theorem Zoo {E:List Ev}{k n:Nat}(h:(newT E k).length=n)(hk:k<=E.length+n):newN E n=newT E k:=by
 have e:List.range' 1 (E.length+n)=List.range' 1 k++List.range' (1+k) (E.length+n - k):=by
  rw[List.range'_append_1];congr 1;omega
 unfold newN;rw[e,List.filter_append,List.take_append_of_le_length (by unfold newT at h;omega),List.take_of_length_le (by unfold newT at h;omega)]
 rfl
theorem Zq4 (rs:List Rw)(i:ByteArray):fansN rs i<=rs.length:=by
 refine snocI (p:=fun rs=>fansN rs i<=rs.length) (zr _) (fun l a h=>?_) rs;rw[Zd6,List.length_append];split <;> simp <;> omega
theorem Zt3 (k:Nat):(⟨#[110,45]⟩++⟨(Lib.itoa (k:Int)).toArray⟩:ByteArray)=nS k:=by
 apply ba_eq;unfold nS;rw[Ru.Za6,Ru.Za6,Ru.Zak,Lib.itoa_nonneg]
theorem Zop {w:World}{wb ct cr:Nat}{c:Cfg}{E:List Ev}(h:WrAt w wb ct cr c E)(hall:∀e∈E,EvOk e)(hlen:E.length<=1000)(hs:SortedE E)(hcr:0<=c.crowd/\c.crowd<=1048576)(htb:Ru.TabAt w)(q:Option Addr)(p i:ByteArray)(now:Int)(hi:i.size<=300):Calls Tryz.prog 62 #[qA q p i now,.pointer (some ⟨wb,0,none⟩)] w (NewR w (openL E i now c.crowd)):=by
 obtain⟨i0,hi0,hy0,hy1,hy2⟩:=info_parts Zdd;obtain⟨fn,hfn⟩:=zG (fansN (rowsW E) i:Nat);obtain⟨lt,hlt⟩:=zG (lateP E now);obtain⟨nd,hnd⟩:=zG (c.crowd - (fn:Int):Int);have hfl:fn<=1000:=by
  rw[<-hfn];refine Nat.le_trans (Zq4 _ _) ?_;have:=Zcs E;omega
 have HOB:Hid (1000<nd->openL E i now c.crowd = []):=zh (fun h=>by
  unfold openL;rw[hfn,hnd,if_pos h])
 have HOL:Hid (nd<=1000->openL E i now c.crowd=(newN E nd.toNat).map (fun k=>⟨⟨#[]⟩,0,lt,1,nS k,i,0,⟨#[]⟩⟩)):=zh (fun h=>by
  unfold openL;rw[hfn,hnd,if_neg (by omega),<-hlt]
  rfl)
 have HPZ:Hid (∀e∈E,e.person.size<=maxLen):=zh (fun e he=>by have:=(hall e he).2.2.1;unfold maxLen;omega);have HTB:=zh htb;have HLT:Hid (∀W,Below w.heap.size w W->Calls Tryz.prog 100 #[qA q p i now,.pointer (some ⟨wb,0,none⟩)] W fun e w'=>e = .returned (.int .i64 lt)/\Below W.heap.size W w'):=zh (fun W hb=>by rw[<-hlt];exact Zk8 (h.below hb) hlen hs q p i now);have HEV:Hid (∀W,Below w.heap.size w W->Calls Tryz.prog 24 #[.pointer (some ⟨wb,0,none⟩)] W fun e w'=>∃A cp,e = .returned (.slice A E.length cp)/\w'.ownsRow W.heap.size 59 8 (.slice A E.length cp) E.length (E.flatMap evC)/\Below W.heap.size W w'):=zh (fun W hb=>Zch (h.below hb) hlen);have HCF:Hid (∀W,Below w.heap.size w W->Calls Tryz.prog 23 #[.pointer (some ⟨wb,0,none⟩)] W fun e w'=>e = .returned (cfgA c)/\Below W.heap.size W w'):=zh (fun W hb=>Zc8 (h.below hb));have HCR:Hid (∀W,Below w.heap.size w W->Calls Tryz.prog 26 #[.pointer (some ⟨wb,0,none⟩)] W fun e w'=>e = .returned (.pointer (some ⟨cr,0,none⟩))/\W=w'):=zh (fun W hb=>Zbt (h.below hb));obtain⟨U,hU⟩:=h.crw;have HFN:Hid (∀W,Below w.heap.size w W->Calls Tryz.prog 65 #[.pointer (some ⟨cr,0,none⟩),.string i] W fun e w'=>e = .returned (.int .i64 (fn:Int))/\Below W.heap.size W w'):=zh (fun W hb=>by rw[<-hfn];exact Zhy cr (halfP c.half) U (rowsW E) i W (hU.below hb) (by unfold maxLen;omega));obtain⟨w1,hw1⟩:=zG (w.alloc (.cells (qArr q p i now) 87));have HX1:Hid (Blk w1 w.heap.size 87 (qArr q p i now)):=zB hw1;have HB1:=zA hw1
 have HQC:Hid (∀W,Below w1.heap.size w1 W->World.cell? W ⟨w.heap.size,2,none⟩=some (.string i)):=zh (fun W hb=>by
  have k:Blk W w.heap.size 87 (qArr q p i now):=(hb.block _ HX1.o.lt).trans HX1.o;exact k.cell 2)
 have HB01:Hid (∀W,Below w1.heap.size w1 W->Below w.heap.size w W):=zh (fun W hb=>HB1.o.trans (hb.mono HB1.o.size));have hwn:IntKind.i64.wrap (c.crowd - (fn:Int))=nd:=by rw[hnd];exact IntWalk.i64_in _ (by omega)
 have hwm:IntKind.i64.wrap nd=nd:=IntWalk.i64_in _ (by omega);obtain⟨n,hn⟩:=zG (E.length);have HN:=zh hn;have HND:Hid (nd<=1048576):=zh (by omega);rw[hn]at HEV hlen;unfold qA at HLT ⊢;unfold qArr at hw1;clear h hall hs hcr htb hi hfn hlt hU hn;go_enter Tryz.func62,Tryz.ntmps62;go_upto_region 1 with fail;clear hw1;refine Zar (fun W=>Below w1.heap.size w1 W) [(0,false),(3,false),(5,false),(6,false),(1,true),(2,false),(4,true),(7,true),(8,false),(9,false)] (by kernel_rfl) (by kernel_rfl) (below_drew (Below.refl _ _)) ?_;simp only[planL,xq4,xq5];obtain⟨wd,hwd⟩:=zG (w1.drew);have HBD:=zD hwd;rw[hwd];clear hwd
 repeat ((first|(refine Zaf _ (by rfl) (fun W hW=>by (have x2:=HQC.o W hW;go_simp;try with_reducible rfl)) ?_)|(refine Zac (by rfl) ?_));simp only[Act.put,xq1,xq2,xq3])
 refine Zae ?_;have HC:=zh (HCF.o wd (HB01.o wd HBD.o));unfold cfgA at HC;go_wp2_with fail;refine HC.o.mono ?_;rintro e w2 ⟨rfl,hb2⟩;have HB2:=zT HBD hb2;clear hb2 HC HCF;go_wp2_with fail;refine⟨HB2.o,?_⟩;refine Zaf (.int .i64 c.crowd) (by rfl) (fun W hW=>by rfl) ?_;simp only[Act.put,xq1,xq2,xq3];refine Zae ?_;have HC:=zh (HCR.o w2 (HB01.o w2 HB2.o));go_wp2_with fail;refine HC.o.mono ?_;rintro e w3 ⟨rfl,rfl⟩;clear HC;go_wp2_with fail;refine⟨HB2.o,?_⟩
 repeat ((first|(refine Zaf _ (by rfl) (fun W hW=>by (have x2:=HQC.o W hW;go_simp;try with_reducible rfl)) ?_)|(refine Zac (by rfl) ?_));simp only[Act.put,xq1,xq2,xq3])
 refine Zae ?_;have HC:=zh (HFN.o w2 (HB01.o w2 HB2.o));go_wp2_with fail;refine HC.o.mono ?_;rintro e w3 ⟨rfl,hb3⟩;have HB3:=zT HB2 hb3;clear hb3 HC HFN HCR;go_wp2_with fail;refine⟨HB3.o,?_⟩;refine Zaf (.int .i64 nd) (by rfl) (fun W hW=>by go_simp;try with_reducible rfl) ?_;simp only[Act.put,xq1,xq2,xq3]
 repeat ((first|(refine Zaf _ (by rfl) (fun W hW=>by (have x2:=HQC.o W hW;go_simp;try with_reducible rfl)) ?_)|(refine Zac (by rfl) ?_));simp only[Act.put,xq1,xq2,xq3])
 refine Zah ?_;have HBW3:=zh (HB01.o w3 HB3.o);clear hwn hwm;by_cases hbig:1000<nd
 ·have HF:Hid (openL E i now c.crowd = []):=zh (HOB.o hbig);go_wp2_with fail;go_ret;rw[HF.o];exact⟨none,0,0,rfl,rfl,own_nil _ _ _ _,HBW3.o⟩
 have dbig:decide (1000<nd)=false:=decide_eq_false hbig;obtain⟨nt,hnt⟩:=zG (nd.toNat);have HF:Hid (openL E i now c.crowd=(newN E nt).map (fun k=>⟨⟨#[]⟩,0,lt,1,nS k,i,0,⟨#[]⟩⟩)):=zh (by rw[HOL.o (by omega),hnt]);have HNT:Hid (nd.toNat=nt/\nt<=1000):=zh ⟨hnt,by omega⟩;obtain⟨w4,hw4⟩:=zG (w3.alloc (.map #[] 0));obtain⟨gb,hgb⟩:=zG (w3.heap.size);have HM4:Hid (MapIs Tryz.prog 9 okBool w4 gb 0 (mapG (stG (knownT E 0)))):=zh ((by rw[<-hw4,<-hgb];exact MapIs.made w3 Tryz.prog 9 okBool:MapIs Tryz.prog 9 okBool w4 gb 0 (fun _=>none)).congr (fun kl=>by cases kl <;> rfl));have HB4:Hid (Below w1.heap.size w1 w4):=zh (by rw[<-hw4];exact HB3.o.alloc HB3.o.size _)
 have HGB:Hid (w1.heap.size<=gb/\w.heap.size<=gb/\gb<w4.heap.size):=zh (by
  have h1:=HB3.o.size;have h2:=HB1.o.size;have h3:w4.heap.size=gb+1:=by rw[<-hw4,<-hgb];simp
  omega)
 have hmm:=@run_makeMap Tryz.prog;have HC:=zh (HEV.o w4 (HB01.o w4 HB4.o));clear hbig hnt HEV HOL HOB;go_wp2_with fail;try rw[hgb]
 try rw[hw4]
 refine HC.o.mono ?_;rintro e w5 ⟨A5,c5,rfl,ho5,hb5⟩;have HM5:Hid (MapIs Tryz.prog 9 okBool w5 gb 0 (mapG (stG (knownT E 0)))):=zh (HM4.o.kept (below_kept (S:=fun _=>False) hb5 (zr _)) (fun h=>h));have HB5:=zT HB4 hb5;have HG5:Hid (gb<w4.heap.size/\w4.heap.size<=w5.heap.size):=zh ⟨HGB.o.2.2,hb5.size⟩;have HR5:Hid (RowIn w5 w5.heap.size 8 A5 n (E.flatMap evC)/\w5.ownsRow w4.heap.size 59 8 (.slice A5 n c5) n (E.flatMap evC)):=zh ⟨RowIn.of_own ho5,ho5⟩;clear hw4 hgb hmm ho5 hb5 HC HM4;go_wp2_with fail;go_loopw [28] (fun iv wr=>∃k:Nat,k<=n/\iv = .int .i64 k/\Hid (MapIs Tryz.prog 9 okBool wr gb k (mapG (stG (knownT E k))))/\Hid (Kept (fun b=>b=gb) w5 wr)/\Hid (Below w1.heap.size w1 wr)) (fun iv _=>n - (intOf iv).toNat)
 case atStart=>exact⟨0,Nat.zero_le _,rfl,HM5,zh (Kept.refl _ _),HB5⟩
 case round=>
  clear HM5;obtain⟨k,hk,rfl,hmap,hkw,hbw⟩:=hrel;by_cases hlt:k<n
  ·obtain⟨e,he⟩:∃e,E[k]? = some e:=⟨E[k]'(by rw[HN.o];exact hlt),List.getElem?_eq_getElem _⟩
   obtain⟨g,o,rfl,hgB,hcl⟩:=EvsAt.at (w:=w5) (B:=w5.heap.size) (A:=A5) (l:=E) (by unfold EvsAt;rw[HN.o];exact HR5.o.1) (by rw[HN.o];omega);have hgne:g≠gb:=by
    have h1:=(HR5.o.2.lt g rfl).1;have h2:=HG5.o.1;omega
   obtain⟨p0,p1,p2,p3,p4,p5,p6,p7⟩:EvAt wr g (o+k*8) e:=(hcl k e he).keep (fun j=>hkw.o.cell (p:=⟨g,j,none⟩) hgB hgne);have hk8:(k:Int)<(n:Int):=by omega
   have hk9:(0:Int)<=(k:Int):=by omega
   have hps:=HPZ.o e (List.mem_of_getElem? he);have HKS:=zh (Zjm he);obtain⟨w6,hw6⟩:=zG (wr.alloc (.cells (evArr e) 59));have HX6:Hid (Blk w6 wr.heap.size 59 (evArr e)):=zB hw6;have HM6:Hid (MapIs Tryz.prog 9 okBool w6 gb k (mapG (stG (knownT E k)))):=zh (by rw[<-hw6];exact hmap.o.alloc _);have HB6:Hid (Below w1.heap.size w1 w6):=zh (by rw[<-hw6];exact hbw.o.alloc hbw.o.size _);have HK6:Hid (Kept (fun b=>b=gb) w5 w6):=zh (by rw[<-hw6];exact hkw.o.alloc _);have q4:w6.cell? ⟨wr.heap.size,4,none⟩=some (.string e.person):=HX6.o.cell 4;unfold evArr at hw6;clear hcl he hmap hkw hbw hgne
   go_wp2_with (first
    | (at_mapUpdate;refine Zag _ rfl _ _ _ 67 rfl 9 4 (string_keyed Tryz.underlying9) Tryz.underlying67 okBool gb _ _ rfl HM6.o (by unfold maxLen;omega) _ (.bool true) _ rfl rfl (WideMaps.keyOf_string_mk Tryz.underlying9 hps) rfl ?_;intro w8 hm8 hg8 hs8)
    | fail)
   have HM8:Hid (MapIs Tryz.prog 9 okBool w8 gb (k+1) (mapG (stG (knownT E (k+1))))):=zh (by
    rw[HKS.o];exact hm8.congr (fun kl=>Zgr _ _ kl))
   have HB8:Hid (Below w1.heap.size w1 w8):=zh (HB6.o.grown hg8 HB6.o.size (fun q hq=>by cases hq;exact HGB.o.1));have HK8:Hid (Kept (fun b=>b=gb) w5 w8):=zh (HK6.o.grown hg8 (fun q hq=>by cases hq;exact Or.inl rfl));clear hm8 hg8 hs8;go_wp2_with fail;go_roundw
   case rel=>exact⟨k+1,by omega,by go_num,HM8,HK8,HB8⟩
   case measure=>simp[intOf];omega
  ·obtain rfl:n=k:=by omega
   rw[Zom HN.o]at hmap;obtain⟨wo,rfl⟩:=zH wr;have x0:wo.cell? ⟨w.heap.size,0,none⟩=some (.pointer q):=by
    have k:Blk wo w.heap.size 87 (qArr q p i now):=(hbw.o.block _ HX1.o.lt).trans HX1.o;exact k.cell 0
   have x1:wo.cell? ⟨w.heap.size,1,none⟩=some (.string p):=by
    have k:Blk wo w.heap.size 87 (qArr q p i now):=(hbw.o.block _ HX1.o.lt).trans HX1.o;exact k.cell 1
   have x2:=HQC.o wo hbw.o;have x3:wo.cell? ⟨w.heap.size,3,none⟩=some (.int .i64 now):=by
    have k:Blk wo w.heap.size 87 (qArr q p i now):=(hbw.o.block _ HX1.o.lt).trans HX1.o;exact k.cell 3
   have HC:=zh (HLT.o wo (HB01.o wo hbw.o));clear hlt;go_wp2_with fail;refine HC.o.mono ?_;rintro e w7 ⟨rfl,hb7⟩;have HB7:=zT hbw hb7;have HM7:Hid (MapIs Tryz.prog 9 okBool w7 gb n (mapG (stG (knownB E)))):=zh (hmap.o.kept (below_kept (S:=fun _=>False) hb7 (zr _)) (fun h=>h))
   have HG7:Hid (gb<w7.heap.size):=zh (by
    have h1:=HG5.o;have h2:=hkw.o.size;have h3:=hb7.size;omega)
   clear hb7 HC HLT x0 x1 x2 x3;go_wp2_with fail;go_loopw [10,11] (fun lv iv wr=>∃(k j m c8:Nat) (A8:Option Addr),j=k+1/\iv = .int .i64 j/\lv = .slice A8 m c8/\m<=nt/\k<=n+nt/\Hid ((newT E k).length=m)/\Hid (wr.ownsRow w7.heap.size 59 8 (.slice A8 m c8) m (((newT E k).map (fun k=>(⟨⟨#[]⟩,0,lt,1,nS k,i,0,⟨#[]⟩⟩:Ev))).flatMap evC))/\Hid (Below w7.heap.size w7 wr)) (fun _ iv _=>n+nt+2 - (intOf iv).toNat)
   case atStart=>exact⟨0,1,0,0,none,rfl,rfl,rfl,Nat.zero_le _,Nat.zero_le _,zh rfl,zh (own_nil _ _ _ _),zh (Below.refl _ _)⟩
   case round=>
    obtain⟨k,j,m,c8,A8,hj,rfl,rfl,hm,hkn,hml,hrow,hbq⟩:=hrel;have HJ:=zh hj;have hn3:=HNT.o.2;have HZ17:Hid (w1.heap.size<=w7.heap.size):=zh HB7.o.size;by_cases hmn:m<nt
    ·have hkl:=Ztc hml.o hmn;rw[HN.o]at hkl;have dmn:decide ((m:Int)<nd)=true:=decide_eq_true (by have:=HNT.o.1;omega);have HIT:=zh (Ru.Zbx (j:Int) (by omega) (by omega) wr ((HTB.o.keep (HB01.o w7 HB7.o)).keep hbq.o));have hcat:=Zt3 j;have hjb:j<=2002:=by omega
     have HNN:Hid (nameB (nS j)=true):=zh (Zji (by omega));have hnz:(nS j).size<=maxLen:=by have:=Zay HNN.o;unfold maxLen;omega
     obtain⟨s1,hs1⟩:∃s1:ByteArray,⟨(Lib.itoa (j:Int)).toArray⟩=s1:=⟨_,rfl⟩
     have hsz1:s1.size<=24:=by
      have h1:=Zay HNN.o;rw[<-hcat,ByteArray.size_append,hs1]at h1;omega
     rw[hs1]at HIT hcat;obtain⟨kb,hkb⟩:=zG (knownB E (nS j));have HNS:Hid (newT E j=newT E k++if kb then [] else [j]):=zh (by rw[HJ.o,Zon,<-HJ.o,hkb]);obtain⟨nm,hnm⟩:=zG (nS j);have HGV:Hid ((mapG (stG (knownB E)) (.string nm.data.toList)).getD (.bool false) = .bool kb):=zh (by rw[mapG_at];unfold stG;rw[<-hnm,hkb];cases kb <;> rfl);have HNM:=zh hnm;rw[hnm]at hcat hnz;clear hj hs1 hkb hnm;go_wp2_with fail;refine HIT.o.mono ?_;rintro e w8 ⟨rfl,hb8⟩;have HB8:=zT hbq hb8;have HM8:Hid (MapIs Tryz.prog 9 okBool w8 gb n (mapG (stG (knownB E)))):=zh (HM7.o.kept (below_kept (S:=fun _=>False) HB8.o (zr _)) (fun h=>h));have HO8:=zh (Ru.Za9 hrow.o hb8);have x2:=HQC.o w8 (HB7.o.trans (HB8.o.mono HZ17.o));clear hb8 HIT;cases kb with
     | true=>
      have HNS2:Hid (newT E j=newT E k):=zh (by rw[HNS.o];simp)
      go_wp2_with (first
       | (at_lookup;refine Zao _ rfl _ _ 67 rfl 9 4 (string_keyed Tryz.underlying9) Tryz.underlying67 okBool _ (zeroBool _) rfl gb n _ rfl HM8.o _ _ rfl (WideMaps.keyOf_string_mk Tryz.underlying9 hnz) _ HGV.o ?_)
       | fail)
      go_roundw
      case rel=>exact⟨j,j+1,m,c8,A8,rfl,by go_num,rfl,hm,by have:=HJ.o;omega,zh (by rw[HNS2.o];exact hml.o),zh (by rw[HNS2.o];exact HO8.o),HB8⟩
      case measure=>simp[intOf];have:=HJ.o;omega
     | false=>
      have HNS2:Hid (newT E j=newT E k++[j]):=zh (by rw[HNS.o];simp);have HR9:Hid (RowIn (w8.alloc (.cells (evArr ⟨⟨#[]⟩,0,lt,1,nm,i,0,⟨#[]⟩⟩) 59)) (w8.heap.size+1) 8 (some ⟨w8.heap.size,0,none⟩) 1 (evC ⟨⟨#[]⟩,0,lt,1,nm,i,0,⟨#[]⟩⟩)):=zh (Zhm w8 _ _);unfold evArr at HR9;have hz3:w7.heap.size<=w8.heap.size+1:=by have:=HB8.o.size;omega
      go_wp2_with (first
       | (at_lookup;refine Zao _ rfl _ _ 67 rfl 9 4 (string_keyed Tryz.underlying9) Tryz.underlying67 okBool _ (zeroBool _) rfl gb n _ rfl HM8.o _ _ rfl (WideMaps.keyOf_string_mk Tryz.underlying9 hnz) _ HGV.o ?_)
       | (at_builtin;refine Zaa _ rfl _ _ 23 rfl w7.heap.size 59 i0 _ 8 96 Tryz.underlying23 hi0 hy0 hy1 hy2 rfl (by omega) (.slice A8 m c8) m _ rfl (HO8.o.alloc _) (w8.heap.size+1) (some ⟨w8.heap.size,0,none⟩) 1 1 (evC ⟨⟨#[]⟩,0,lt,1,nm,i,0,⟨#[]⟩⟩) rfl HR9.o (fun h=>by cases h) (fun u hu=>Zb1 [⟨⟨#[]⟩,0,lt,1,nm,i,0,⟨#[]⟩⟩] u (by simpa using hu)) (by unfold maxLen;omega) (by omega) (by simp;omega) ?_;intro v9 w9 ho9 hg9 hv9)
       | fail)
      obtain⟨A9,c9,hr9⟩:=Zbh ho9;subst hr9;have HO9:=zh ho9;have HB9:Hid (Below w7.heap.size w7 w9):=zh ((HB8.o.alloc HB8.o.size _).grown hg9 (HB8.o.alloc HB8.o.size _).size (fun j hj=>(HO8.o.lt _ hj).1));clear ho9 hg9 hv9;go_wp2_with fail;go_roundw
      case rel=>exact⟨j,j+1,m+1,c9,A9,rfl,by go_num,rfl,by omega,by have:=HJ.o;omega,zh (by rw[HNS2.o,List.length_append,hml.o];rfl),zh (by rw[HNS2.o,List.map_append,List.flatMap_append];simpa [HNM.o] using HO9.o),HB9⟩
      case measure=>simp[intOf];have:=HJ.o;omega
    ·have HME:Hid (m=nt):=zh (by omega);have dmn:decide ((m:Int)<nd)=false:=decide_eq_false (by have:=HNT.o.1;have:=HME.o;omega);have HD:=zh (Zoo (E:=E) (k:=k) (n:=nt) (by rw[hml.o,HME.o]) (by rw[HN.o];omega));clear hmn;go_wp2_with fail;go_ret;rw[HF.o];refine⟨A8,m,c8,rfl,by rw[HD.o,List.length_map,hml.o],?_,(HB01.o w7 HB7.o).trans (hbq.o.mono (HB01.o w7 HB7.o).size)⟩;rw[HD.o];exact Zcz hrow.o (HB01.o w7 HB7.o).size
end Go.Proofs.YtnpfaajhgghpgaaGreatDoor
namespace Go.Proofs.YtnpfaajhgghpgaaGreatDoor
open Go.Shelf Go.RowKit Go.Maps
open Ru (Fz fzA fzX Nd holdsR)
def okAll:Value->Bool:=fun _=>true
def fnQ (k:Nat)(xs:Array Value):Value:=.func (Fn.func k) #[] xs
theorem Zil {w:World}{tb:Nat}{q:Option Addr}{p i:ByteArray}{now:Int}(h:Blk w tb 87 (qArr q p i now)):(loadVar 87 ⟨tb,0,none⟩).run Tryz.prog w = .ok (qA q p i now) w:=by
 have c0:=h.cell 0;have c1:=h.cell 1;have c2:=h.cell 2;have c3:=h.cell 3;simp[qArr]at c0 c1 c2 c3;unfold qA loadVar;go_simp
theorem Zq5 {w:World}{wb ct cr:Nat}{c:Cfg}{E:List Ev}(h:WrAt w wb ct cr c E)(hall:∀e∈E,EvOk e)(hlen:E.length<=1000)(hs:SortedE E)(hcr:0<=c.crowd/\c.crowd<=1048576)(htb:Ru.TabAt w)(q:Option Addr)(p i:ByteArray)(now:Int)(hp:p.size<=300)(hi:i.size<=300)(tb pb:Nat)(ht:Blk w tb 87 (qArr q p i now))(hpb:w.cell? ⟨pb,0,none⟩=some (.pointer (some ⟨wb,0,none⟩))):Calls Tryz.prog 55 #[.pointer (some ⟨tb,0,none⟩),.pointer (some ⟨pb,0,none⟩)] w (NewR w ([listE E i now])):=by
 have HC:=zh (Zol h hall hlen q p i now hi);have x0:w.cell? ⟨tb,0,none⟩=some (.pointer q):=ht.cell 0;have x1:w.cell? ⟨tb,1,none⟩=some (.string p):=ht.cell 1;have x2:w.cell? ⟨tb,2,none⟩=some (.string i):=ht.cell 2;have x3:w.cell? ⟨tb,3,none⟩=some (.int .i64 now):=ht.cell 3;have hlt:=ht.lt;unfold qA at HC;clear h hall hlen hs hcr htb hp hi ht;go_enter Tryz.func55,Tryz.ntmps55;go_wp2_with fail;refine HC.o.mono ?_;rintro e w1 ⟨A,n,cp,rfl,hn,ho,hb⟩;clear HC;go_wp2_with fail;go_ret;exact⟨A,n,cp,rfl,hn,ho,hb⟩
theorem Zq6 {w:World}{wb ct cr:Nat}{c:Cfg}{E:List Ev}(h:WrAt w wb ct cr c E)(hall:∀e∈E,EvOk e)(hlen:E.length<=1000)(hs:SortedE E)(hcr:0<=c.crowd/\c.crowd<=1048576)(htb:Ru.TabAt w)(q:Option Addr)(p i:ByteArray)(now:Int)(hp:p.size<=300)(hi:i.size<=300)(tb pb:Nat)(ht:Blk w tb 87 (qArr q p i now))(hpb:w.cell? ⟨pb,0,none⟩=some (.pointer (some ⟨wb,0,none⟩))):Calls Tryz.prog 57 #[.pointer (some ⟨tb,0,none⟩)] w (NewR w ([stockE i now])):=by
 have HC:=zh (Zl8 w q p i now);have x0:w.cell? ⟨tb,0,none⟩=some (.pointer q):=ht.cell 0;have x1:w.cell? ⟨tb,1,none⟩=some (.string p):=ht.cell 1;have x2:w.cell? ⟨tb,2,none⟩=some (.string i):=ht.cell 2;have x3:w.cell? ⟨tb,3,none⟩=some (.int .i64 now):=ht.cell 3;have hlt:=ht.lt;unfold qA at HC;clear h hall hlen hs hcr htb hp hi ht;go_enter Tryz.func57,Tryz.ntmps57;go_wp2_with fail;refine HC.o.mono ?_;rintro e w1 ⟨A,n,cp,rfl,hn,ho,hb⟩;clear HC;go_wp2_with fail;go_ret;exact⟨A,n,cp,rfl,hn,ho,hb⟩
theorem Zq7 {w:World}{wb ct cr:Nat}{c:Cfg}{E:List Ev}(h:WrAt w wb ct cr c E)(hall:∀e∈E,EvOk e)(hlen:E.length<=1000)(hs:SortedE E)(hcr:0<=c.crowd/\c.crowd<=1048576)(htb:Ru.TabAt w)(q:Option Addr)(p i:ByteArray)(now:Int)(hp:p.size<=300)(hi:i.size<=300)(tb pb:Nat)(ht:Blk w tb 87 (qArr q p i now))(hpb:w.cell? ⟨pb,0,none⟩=some (.pointer (some ⟨wb,0,none⟩))):Calls Tryz.prog 59 #[.pointer (some ⟨tb,0,none⟩),.pointer (some ⟨pb,0,none⟩)] w (NewR w (unhideL E p i now)):=by
 have HC:=zh (Zjl h hall hlen hs q p i now hp hi);have x0:w.cell? ⟨tb,0,none⟩=some (.pointer q):=ht.cell 0;have x1:w.cell? ⟨tb,1,none⟩=some (.string p):=ht.cell 1;have x2:w.cell? ⟨tb,2,none⟩=some (.string i):=ht.cell 2;have x3:w.cell? ⟨tb,3,none⟩=some (.int .i64 now):=ht.cell 3;have hlt:=ht.lt;unfold qA at HC;clear h hall hlen hs hcr htb hp hi ht;go_enter Tryz.func59,Tryz.ntmps59;go_wp2_with fail;refine HC.o.mono ?_;rintro e w1 ⟨A,n,cp,rfl,hn,ho,hb⟩;clear HC;go_wp2_with fail;go_ret;exact⟨A,n,cp,rfl,hn,ho,hb⟩
theorem Zq8 {w:World}{wb ct cr:Nat}{c:Cfg}{E:List Ev}(h:WrAt w wb ct cr c E)(hall:∀e∈E,EvOk e)(hlen:E.length<=1000)(hs:SortedE E)(hcr:0<=c.crowd/\c.crowd<=1048576)(htb:Ru.TabAt w)(q:Option Addr)(p i:ByteArray)(now:Int)(hp:p.size<=300)(hi:i.size<=300)(tb pb:Nat)(ht:Blk w tb 87 (qArr q p i now))(hpb:w.cell? ⟨pb,0,none⟩=some (.pointer (some ⟨wb,0,none⟩))):Calls Tryz.prog 61 #[.pointer (some ⟨tb,0,none⟩),.pointer (some ⟨pb,0,none⟩)] w (NewR w (openL E i now c.crowd)):=by
 have HC:=zh (Zop h hall hlen hs hcr htb q p i now hi);have x0:w.cell? ⟨tb,0,none⟩=some (.pointer q):=ht.cell 0;have x1:w.cell? ⟨tb,1,none⟩=some (.string p):=ht.cell 1;have x2:w.cell? ⟨tb,2,none⟩=some (.string i):=ht.cell 2;have x3:w.cell? ⟨tb,3,none⟩=some (.int .i64 now):=ht.cell 3;have hlt:=ht.lt;unfold qA at HC;clear h hall hlen hs hcr htb hp hi ht;go_enter Tryz.func61,Tryz.ntmps61;go_wp2_with fail;refine HC.o.mono ?_;rintro e w1 ⟨A,n,cp,rfl,hn,ho,hb⟩;clear HC;go_wp2_with fail;go_ret;exact⟨A,n,cp,rfl,hn,ho,hb⟩
def curM (tb pb:Nat):Lit->Option Value:=upd (upd (upd (upd (fun _=>none) (.int .i64 1) (fnQ 55 #[.pointer (some ⟨tb,0,none⟩),.pointer (some ⟨pb,0,none⟩)])) (.int .i64 2) (fnQ 57 #[.pointer (some ⟨tb,0,none⟩)])) (.int .i64 3) (fnQ 59 #[.pointer (some ⟨tb,0,none⟩),.pointer (some ⟨pb,0,none⟩)])) (.int .i64 5) (fnQ 61 #[.pointer (some ⟨tb,0,none⟩),.pointer (some ⟨pb,0,none⟩)])
theorem Zoq {tb pb:Nat}{y:Int}(h:y=4\/y=6):curM tb pb (.int .i64 y)=none:=by
 rcases h with rfl|rfl <;> simp[curM,upd,Lit.sameKey]
theorem Zrp {tb pb:Nat}:curM tb pb (.int .i64 1)=some (fnQ 55 #[.pointer (some ⟨tb,0,none⟩),.pointer (some ⟨pb,0,none⟩)]):=by simp[curM,upd,Lit.sameKey]
theorem Zrq {tb pb:Nat}:curM tb pb (.int .i64 2)=some (fnQ 57 #[.pointer (some ⟨tb,0,none⟩)]):=by simp[curM,upd,Lit.sameKey]
theorem Zrr {tb pb:Nat}:curM tb pb (.int .i64 3)=some (fnQ 59 #[.pointer (some ⟨tb,0,none⟩),.pointer (some ⟨pb,0,none⟩)]):=by simp[curM,upd,Lit.sameKey]
theorem Zrs {tb pb:Nat}:curM tb pb (.int .i64 5)=some (fnQ 61 #[.pointer (some ⟨tb,0,none⟩),.pointer (some ⟨pb,0,none⟩)]):=by simp[curM,upd,Lit.sameKey]
theorem zeroFn (w:World):(zeroValue 93).run Tryz.prog w = .ok .nilFunc w:=by go_simp
theorem Zq9 {w:World}{wb ct cr:Nat}{c:Cfg}{E:List Ev}(h:WrAt w wb ct cr c E)(hall:∀e∈E,EvOk e)(hlen:E.length<=1000)(hs:SortedE E)(hcr:0<=c.crowd/\c.crowd<=1048576)(htb:Ru.TabAt w)(q:Option Addr)(p i:ByteArray)(now:Int)(hp:p.size<=300)(hi:i.size<=300)(y:Nat)(hy:1<=y/\y<=6):Calls Tryz.prog 22 #[qA q p i now,.pointer (some ⟨wb,0,none⟩),.int .i64 (y:Int)] w (NewR w (cureP E y p i now c.crowd)):=by
 have HW:=zh h;have HLL:Hid (1<=y/\y<=6):=zh hy;obtain⟨w1,hw1⟩:=zG (w.alloc (.cells (qArr q p i now) 87));obtain⟨tb,htbe⟩:=zG (w.heap.size);have HX1:Hid (Blk w1 tb 87 (qArr q p i now)):=zh (by rw[<-hw1,<-htbe];exact Blk.new _ _ _);have HB1:=zA hw1;obtain⟨w2,hw2⟩:=zG (w1.alloc (.cells #[.pointer (some ⟨wb,0,none⟩)] 38));obtain⟨pb,hpbe⟩:=zG (w1.heap.size);have HP2:Hid (Blk w2 pb 38 #[.pointer (some ⟨wb,0,none⟩)]):=zh (by rw[<-hw2,<-hpbe];exact Blk.new _ _ _);have HX2:Hid (Blk w2 tb 87 (qArr q p i now)):=zh (by rw[<-hw2];exact HX1.o.alloc _);have HB2:Hid (Below w.heap.size w w2):=zh (by rw[<-hw2];exact HB1.o.alloc HB1.o.size _);obtain⟨w3,hw3⟩:=zG (w2.alloc (.map #[] 0));obtain⟨mb,hmbe⟩:=zG (w2.heap.size);have HM3:Hid (MapIs Tryz.prog 47 okAll w3 mb 0 (fun _=>none)):=zh (by rw[<-hw3,<-hmbe];exact MapIs.made w2 Tryz.prog 47 okAll);have HB3:=zA hw3;have HMB:Hid (w2.heap.size<=mb):=zh (by omega);have hmm:=@run_makeMap Tryz.prog;have hmf:∀(fn:Fn) (first cap:Array Value) (w:World),(Instr.makeFunc fn first cap).run Tryz.prog w = .ok (.func fn first cap) w:=fun _ _ _ _=>rfl
 have HCL:Hid (∀W,Below w2.heap.size w2 W->(Calls Tryz.prog 55 #[.pointer (some ⟨tb,0,none⟩),.pointer (some ⟨pb,0,none⟩)] W (NewR W [listE E i now])/\Calls Tryz.prog 57 #[.pointer (some ⟨tb,0,none⟩)] W (NewR W [stockE i now])/\Calls Tryz.prog 59 #[.pointer (some ⟨tb,0,none⟩),.pointer (some ⟨pb,0,none⟩)] W (NewR W (unhideL E p i now))/\Calls Tryz.prog 61 #[.pointer (some ⟨tb,0,none⟩),.pointer (some ⟨pb,0,none⟩)] W (NewR W (openL E i now c.crowd)))):=zh (fun W hb=>by
  have hbw:=HB2.o.trans (hb.mono HB2.o.size);have hW:=h.below hbw;have htW:Ru.TabAt W:=htb.keep hbw;have k:Blk W tb 87 (qArr q p i now):=(hb.block _ HX2.o.lt).trans HX2.o;have k2:Blk W pb 38 #[.pointer (some ⟨wb,0,none⟩)]:=(hb.block _ HP2.o.lt).trans HP2.o;exact⟨Zq5 hW hall hlen hs hcr htW q p i now hp hi tb pb k (k2.cell 0),Zq6 hW hall hlen hs hcr htW q p i now hp hi tb pb k (k2.cell 0),Zq7 hW hall hlen hs hcr htW q p i now hp hi tb pb k (k2.cell 0),Zq8 hW hall hlen hs hcr htW q p i now hp hi tb pb k (k2.cell 0)⟩)
 have HNU:Hid (∀W base A cs n cp,Below w.heap.size w W->cs.length=n->n<=1000->base<=W.heap.size->W.ownsRow base 59 8 (.slice A n cp) n (cs.flatMap evC)->Calls Tryz.prog 63 #[.pointer (some ⟨wb,0,none⟩),.slice A n cp] W fun e w'=>∃A' c' k,e = .returned (.slice A' k c')/\(cured E cs).length=k/\w'.ownsRow base 59 8 (.slice A' k c') k ((cured E cs).flatMap evC)/\Below base W w'):=zh (fun W base A cs n cp hb hn hn1 hB ho=>Zl7 (h.below hb) (fun e he=>(hall e he).1) hlen base A cs n cp hn ho hB hn1)
 have HLEN:Hid (∀cs,cureL E y p i now c.crowd=cs->cs.length<=1000):=zh (fun cs e=>by
  rw[<-e];unfold cureL;split
  ·simp
  split
  ·simp
  split
  ·unfold unhideL;split <;> split <;> simp
  split
  ·unfold openL;split
   ·simp
   ·rw[List.length_map,Zd0];omega
  ·simp)
 have HCU:Hid (cureP E y p i now c.crowd=cured E (cureL E y p i now c.crowd)):=zh rfl
 have HY:Hid ((y=1/\cureL E y p i now c.crowd = [listE E i now])\/(y=2/\cureL E y p i now c.crowd = [stockE i now])\/(y=3/\cureL E y p i now c.crowd=unhideL E p i now)\/(y=5/\cureL E y p i now c.crowd=openL E i now c.crowd)\/((y=4\/y=6)/\cureL E y p i now c.crowd = [])):=zh (by
  have hh:y=1\/y=2\/y=3\/y=4\/y=5\/y=6:=by omega
  rcases hh with rfl|rfl|rfl|rfl|rfl|rfl
  ·exact Or.inl ⟨rfl,rfl⟩
  ·exact Or.inr (Or.inl ⟨rfl,rfl⟩)
  ·exact Or.inr (Or.inr (Or.inl ⟨rfl,rfl⟩))
  ·exact Or.inr (Or.inr (Or.inr (Or.inr ⟨Or.inl rfl,rfl⟩)))
  ·exact Or.inr (Or.inr (Or.inr (Or.inl ⟨rfl,rfl⟩)))
  ·exact Or.inr (Or.inr (Or.inr (Or.inr ⟨Or.inr rfl,rfl⟩))))
 obtain⟨cl,hcl⟩:=zG (cureL E y p i now c.crowd);have HCLN:=zh (HLEN.o cl hcl);have HCU2:Hid (cureP E y p i now c.crowd=cured E cl):=zh (by rw[HCU.o,hcl]);rw[hcl]at HY;unfold qA;unfold qArr at hw1;clear h hall hlen hs hcr htb hp hi hy hcl HCU HLEN;go_enter Tryz.func22,Tryz.ntmps22;go_upto_region 1 with fail;try rw[htbe]
 try rw[hpbe]
 try rw[hw2]
 clear hw1 hw2 htbe hpbe;obtain⟨w4,e4,hm4,hg4,hs4⟩:=HM3.o.store (int_keyed Tryz.underlying47) Tryz.underlying129 (by unfold maxLen;omega) (keyOf_int_mk (a:=1) Tryz.underlying47 (by simp[Lit.wf,IntKind.min,IntKind.max,IntKind.signed,IntKind.bits])) (show okAll (Value.func (Fn.func 55) #[] #[.pointer (some ⟨tb,0,none⟩),.pointer (some ⟨pb,0,none⟩)])=true from rfl);have HM4:=zh hm4;have HB4:Hid (Below w2.heap.size w2 w4):=zh (HB3.o.grown hg4 HB3.o.size (fun q hq=>by cases hq;exact HMB.o));clear hm4 hg4 hs4;obtain⟨w5,e5,hm5,hg5,hs5⟩:=HM4.o.store (int_keyed Tryz.underlying47) Tryz.underlying129 (by unfold maxLen;omega) (keyOf_int_mk (a:=2) Tryz.underlying47 (by simp[Lit.wf,IntKind.min,IntKind.max,IntKind.signed,IntKind.bits])) (show okAll (Value.func (Fn.func 57) #[] #[.pointer (some ⟨tb,0,none⟩)])=true from rfl);have HM5:=zh hm5;have HB5:Hid (Below w2.heap.size w2 w5):=zh (HB4.o.grown hg5 HB4.o.size (fun q hq=>by cases hq;exact HMB.o));clear hm5 hg5 hs5;obtain⟨w6,e6,hm6,hg6,hs6⟩:=HM5.o.store (int_keyed Tryz.underlying47) Tryz.underlying129 (by unfold maxLen;omega) (keyOf_int_mk (a:=3) Tryz.underlying47 (by simp[Lit.wf,IntKind.min,IntKind.max,IntKind.signed,IntKind.bits])) (show okAll (Value.func (Fn.func 59) #[] #[.pointer (some ⟨tb,0,none⟩),.pointer (some ⟨pb,0,none⟩)])=true from rfl);have HM6:=zh hm6;have HB6:Hid (Below w2.heap.size w2 w6):=zh (HB5.o.grown hg6 HB5.o.size (fun q hq=>by cases hq;exact HMB.o));clear hm6 hg6 hs6;obtain⟨w7,e7,hm7,hg7,hs7⟩:=HM6.o.store (int_keyed Tryz.underlying47) Tryz.underlying129 (by unfold maxLen;omega) (keyOf_int_mk (a:=5) Tryz.underlying47 (by simp[Lit.wf,IntKind.min,IntKind.max,IntKind.signed,IntKind.bits])) (show okAll (Value.func (Fn.func 61) #[] #[.pointer (some ⟨tb,0,none⟩),.pointer (some ⟨pb,0,none⟩)])=true from rfl);have HM7:=zh hm7;have HB7:Hid (Below w2.heap.size w2 w7):=zh (HB6.o.grown hg7 HB6.o.size (fun q hq=>by cases hq;exact HMB.o));clear hm7 hg7 hs7;have HM8:Hid (MapIs Tryz.prog 47 okAll w7 mb 4 (curM tb pb)):=HM7;go_upto_region 2 with fail;clear hmm hmf e4 e5 e6 e7 hw3 hmbe HM3 HM4 HM5 HM6 HM7 HB3 HB4 HB5 HB6
 have HSC:Hid (∀W,Below w2.heap.size w2 W->World.cell? W ⟨pb,0,none⟩=some (.pointer (some ⟨wb,0,none⟩))):=zh (fun W hb=>by
  have k2:Blk W pb 38 #[.pointer (some ⟨wb,0,none⟩)]:=(hb.block _ HP2.o.lt).trans HP2.o;exact k2.cell 0)
 have HBW:Hid (∀W,Below w2.heap.size w2 W->Below w.heap.size w W):=zh (fun W hb=>HB2.o.trans (hb.mono HB2.o.size));rcases HY.o with ⟨rfl,hcl⟩|⟨rfl,hcl⟩|⟨rfl,hcl⟩|⟨rfl,hcl⟩|⟨hy,hcl⟩
 ·have HMV:Hid ((curM tb pb (.int .i64 ((1:Nat):Int))).getD .nilFunc=fnQ 55 #[.pointer (some ⟨tb,0,none⟩),.pointer (some ⟨pb,0,none⟩)]):=zh (by rw[show ((1:Nat):Int)=1 from rfl,Zrp];rfl);have HMI:Hid ((curM tb pb (.int .i64 ((1:Nat):Int))).isSome=true):=zh (by rw[show ((1:Nat):Int)=1 from rfl,Zrp];rfl);have HKEY:=zh (keyOf_int_mk (P:=Tryz.prog) Tryz.underlying47 (a:=((1:Nat):Int)) (by simp[Lit.wf,IntKind.min,IntKind.max,IntKind.signed,IntKind.bits]));subst hcl;unfold fnQ at HMV
  go_wp2_with (first
   | (at_lookup;refine Za0 _ rfl _ _ 129 rfl 47 93 (int_keyed Tryz.underlying47) Tryz.underlying129 okAll _ (zeroFn _) rfl mb 4 _ rfl HM8.o _ _ rfl HKEY.o _ HMV.o _ HMI.o ?_)
   | fail)
  refine Zar (fun W=>Below w2.heap.size w2 W) [(0,false),(1,false),(2,true),(3,true),(4,false)] (by kernel_rfl) (by kernel_rfl) (below_drew HB7.o) ?_;simp only[planL,xq4,xq5];obtain⟨wd,hwd⟩:=zG (w7.drew);have HBD:Hid (Below w2.heap.size w2 wd):=zh (by rw[<-hwd];exact below_drew HB7.o);rw[hwd];clear hwd
  repeat ((first|(refine Zaf _ (by rfl) (fun W hW=>by (have x0:=HSC.o W hW;go_simp;try with_reducible rfl)) ?_)|(refine Zac (by rfl) ?_));simp only[Act.put,xq1,xq2,xq3])
  refine Zae ?_;have HC0:=HCL.o wd HBD.o;have HC:=zh HC0.1;clear HC0;go_wp2_with fail;refine HC.o.mono ?_;rintro e w8 ⟨A8,n8,c8,rfl,hn8,ho8,hb8⟩;have HB8:=zT HBD hb8;have HN:=zh (HNU.o w8 wd.heap.size A8 _ n8 c8 (HBW.o w8 HB8.o) hn8 (by rw[<-hn8];exact HCLN.o) hb8.size ho8);clear hn8 ho8 hb8 HC;go_wp2_with fail;refine⟨HB8.o,?_⟩
  repeat ((first|(refine Zaf _ (by rfl) (fun W hW=>by (have x0:=HSC.o W hW;go_simp;try with_reducible rfl)) ?_)|(refine Zac (by rfl) ?_));simp only[Act.put,xq1,xq2,xq3])
  refine Zae ?_;go_wp2_with fail;refine HN.o.mono ?_;rintro e w9 ⟨A9,c9,k9,rfl,hk9,ho9,hb9⟩;have HB9:Hid (Below w2.heap.size w2 w9):=zh (HB8.o.trans (hb9.mono HBD.o.size));have HR9:=zh (And.intro hk9 ho9);clear hk9 ho9 hb9 HN;go_wp2_with fail;refine⟨HB9.o,?_⟩
  repeat ((first|(refine Zaf _ (by rfl) (fun W hW=>by (have x0:=HSC.o W hW;go_simp;try with_reducible rfl)) ?_)|(refine Zac (by rfl) ?_));simp only[Act.put,xq1,xq2,xq3])
  refine Zah ?_;go_wp2_with fail;go_ret;rw[HCU2.o];exact⟨A9,k9,c9,rfl,HR9.o.1,Zcz HR9.o.2 (Nat.le_trans HB2.o.size HBD.o.size),HBW.o w9 HB9.o⟩
 ·have HMV:Hid ((curM tb pb (.int .i64 ((2:Nat):Int))).getD .nilFunc=fnQ 57 #[.pointer (some ⟨tb,0,none⟩)]):=zh (by rw[show ((2:Nat):Int)=2 from rfl,Zrq];rfl);have HMI:Hid ((curM tb pb (.int .i64 ((2:Nat):Int))).isSome=true):=zh (by rw[show ((2:Nat):Int)=2 from rfl,Zrq];rfl);have HKEY:=zh (keyOf_int_mk (P:=Tryz.prog) Tryz.underlying47 (a:=((2:Nat):Int)) (by simp[Lit.wf,IntKind.min,IntKind.max,IntKind.signed,IntKind.bits]));subst hcl;unfold fnQ at HMV
  go_wp2_with (first
   | (at_lookup;refine Za0 _ rfl _ _ 129 rfl 47 93 (int_keyed Tryz.underlying47) Tryz.underlying129 okAll _ (zeroFn _) rfl mb 4 _ rfl HM8.o _ _ rfl HKEY.o _ HMV.o _ HMI.o ?_)
   | fail)
  refine Zar (fun W=>Below w2.heap.size w2 W) [(0,false),(1,false),(2,true),(3,true),(4,false)] (by kernel_rfl) (by kernel_rfl) (below_drew HB7.o) ?_;simp only[planL,xq4,xq5];obtain⟨wd,hwd⟩:=zG (w7.drew);have HBD:Hid (Below w2.heap.size w2 wd):=zh (by rw[<-hwd];exact below_drew HB7.o);rw[hwd];clear hwd
  repeat ((first|(refine Zaf _ (by rfl) (fun W hW=>by (have x0:=HSC.o W hW;go_simp;try with_reducible rfl)) ?_)|(refine Zac (by rfl) ?_));simp only[Act.put,xq1,xq2,xq3])
  refine Zae ?_;have HC0:=HCL.o wd HBD.o;have HC:=zh HC0.2.1;clear HC0;go_wp2_with fail;refine HC.o.mono ?_;rintro e w8 ⟨A8,n8,c8,rfl,hn8,ho8,hb8⟩;have HB8:=zT HBD hb8;have HN:=zh (HNU.o w8 wd.heap.size A8 _ n8 c8 (HBW.o w8 HB8.o) hn8 (by rw[<-hn8];exact HCLN.o) hb8.size ho8);clear hn8 ho8 hb8 HC;go_wp2_with fail;refine⟨HB8.o,?_⟩
  repeat ((first|(refine Zaf _ (by rfl) (fun W hW=>by (have x0:=HSC.o W hW;go_simp;try with_reducible rfl)) ?_)|(refine Zac (by rfl) ?_));simp only[Act.put,xq1,xq2,xq3])
  refine Zae ?_;go_wp2_with fail;refine HN.o.mono ?_;rintro e w9 ⟨A9,c9,k9,rfl,hk9,ho9,hb9⟩;have HB9:Hid (Below w2.heap.size w2 w9):=zh (HB8.o.trans (hb9.mono HBD.o.size));have HR9:=zh (And.intro hk9 ho9);clear hk9 ho9 hb9 HN;go_wp2_with fail;refine⟨HB9.o,?_⟩
  repeat ((first|(refine Zaf _ (by rfl) (fun W hW=>by (have x0:=HSC.o W hW;go_simp;try with_reducible rfl)) ?_)|(refine Zac (by rfl) ?_));simp only[Act.put,xq1,xq2,xq3])
  refine Zah ?_;go_wp2_with fail;go_ret;rw[HCU2.o];exact⟨A9,k9,c9,rfl,HR9.o.1,Zcz HR9.o.2 (Nat.le_trans HB2.o.size HBD.o.size),HBW.o w9 HB9.o⟩
 ·have HMV:Hid ((curM tb pb (.int .i64 ((3:Nat):Int))).getD .nilFunc=fnQ 59 #[.pointer (some ⟨tb,0,none⟩),.pointer (some ⟨pb,0,none⟩)]):=zh (by rw[show ((3:Nat):Int)=3 from rfl,Zrr];rfl);have HMI:Hid ((curM tb pb (.int .i64 ((3:Nat):Int))).isSome=true):=zh (by rw[show ((3:Nat):Int)=3 from rfl,Zrr];rfl);have HKEY:=zh (keyOf_int_mk (P:=Tryz.prog) Tryz.underlying47 (a:=((3:Nat):Int)) (by simp[Lit.wf,IntKind.min,IntKind.max,IntKind.signed,IntKind.bits]));subst hcl;unfold fnQ at HMV
  go_wp2_with (first
   | (at_lookup;refine Za0 _ rfl _ _ 129 rfl 47 93 (int_keyed Tryz.underlying47) Tryz.underlying129 okAll _ (zeroFn _) rfl mb 4 _ rfl HM8.o _ _ rfl HKEY.o _ HMV.o _ HMI.o ?_)
   | fail)
  refine Zar (fun W=>Below w2.heap.size w2 W) [(0,false),(1,false),(2,true),(3,true),(4,false)] (by kernel_rfl) (by kernel_rfl) (below_drew HB7.o) ?_;simp only[planL,xq4,xq5];obtain⟨wd,hwd⟩:=zG (w7.drew);have HBD:Hid (Below w2.heap.size w2 wd):=zh (by rw[<-hwd];exact below_drew HB7.o);rw[hwd];clear hwd
  repeat ((first|(refine Zaf _ (by rfl) (fun W hW=>by (have x0:=HSC.o W hW;go_simp;try with_reducible rfl)) ?_)|(refine Zac (by rfl) ?_));simp only[Act.put,xq1,xq2,xq3])
  refine Zae ?_;have HC0:=HCL.o wd HBD.o;have HC:=zh HC0.2.2.1;clear HC0;go_wp2_with fail;refine HC.o.mono ?_;rintro e w8 ⟨A8,n8,c8,rfl,hn8,ho8,hb8⟩;have HB8:=zT HBD hb8;have HN:=zh (HNU.o w8 wd.heap.size A8 _ n8 c8 (HBW.o w8 HB8.o) hn8 (by rw[<-hn8];exact HCLN.o) hb8.size ho8);clear hn8 ho8 hb8 HC;go_wp2_with fail;refine⟨HB8.o,?_⟩
  repeat ((first|(refine Zaf _ (by rfl) (fun W hW=>by (have x0:=HSC.o W hW;go_simp;try with_reducible rfl)) ?_)|(refine Zac (by rfl) ?_));simp only[Act.put,xq1,xq2,xq3])
  refine Zae ?_;go_wp2_with fail;refine HN.o.mono ?_;rintro e w9 ⟨A9,c9,k9,rfl,hk9,ho9,hb9⟩;have HB9:Hid (Below w2.heap.size w2 w9):=zh (HB8.o.trans (hb9.mono HBD.o.size));have HR9:=zh (And.intro hk9 ho9);clear hk9 ho9 hb9 HN;go_wp2_with fail;refine⟨HB9.o,?_⟩
  repeat ((first|(refine Zaf _ (by rfl) (fun W hW=>by (have x0:=HSC.o W hW;go_simp;try with_reducible rfl)) ?_)|(refine Zac (by rfl) ?_));simp only[Act.put,xq1,xq2,xq3])
  refine Zah ?_;go_wp2_with fail;go_ret;rw[HCU2.o];exact⟨A9,k9,c9,rfl,HR9.o.1,Zcz HR9.o.2 (Nat.le_trans HB2.o.size HBD.o.size),HBW.o w9 HB9.o⟩
 ·have HMV:Hid ((curM tb pb (.int .i64 ((5:Nat):Int))).getD .nilFunc=fnQ 61 #[.pointer (some ⟨tb,0,none⟩),.pointer (some ⟨pb,0,none⟩)]):=zh (by rw[show ((5:Nat):Int)=5 from rfl,Zrs];rfl);have HMI:Hid ((curM tb pb (.int .i64 ((5:Nat):Int))).isSome=true):=zh (by rw[show ((5:Nat):Int)=5 from rfl,Zrs];rfl);have HKEY:=zh (keyOf_int_mk (P:=Tryz.prog) Tryz.underlying47 (a:=((5:Nat):Int)) (by simp[Lit.wf,IntKind.min,IntKind.max,IntKind.signed,IntKind.bits]));subst hcl;unfold fnQ at HMV
  go_wp2_with (first
   | (at_lookup;refine Za0 _ rfl _ _ 129 rfl 47 93 (int_keyed Tryz.underlying47) Tryz.underlying129 okAll _ (zeroFn _) rfl mb 4 _ rfl HM8.o _ _ rfl HKEY.o _ HMV.o _ HMI.o ?_)
   | fail)
  refine Zar (fun W=>Below w2.heap.size w2 W) [(0,false),(1,false),(2,true),(3,true),(4,false)] (by kernel_rfl) (by kernel_rfl) (below_drew HB7.o) ?_;simp only[planL,xq4,xq5];obtain⟨wd,hwd⟩:=zG (w7.drew);have HBD:Hid (Below w2.heap.size w2 wd):=zh (by rw[<-hwd];exact below_drew HB7.o);rw[hwd];clear hwd
  repeat ((first|(refine Zaf _ (by rfl) (fun W hW=>by (have x0:=HSC.o W hW;go_simp;try with_reducible rfl)) ?_)|(refine Zac (by rfl) ?_));simp only[Act.put,xq1,xq2,xq3])
  refine Zae ?_;have HC0:=HCL.o wd HBD.o;have HC:=zh HC0.2.2.2;clear HC0;go_wp2_with fail;refine HC.o.mono ?_;rintro e w8 ⟨A8,n8,c8,rfl,hn8,ho8,hb8⟩;have HB8:=zT HBD hb8;have HN:=zh (HNU.o w8 wd.heap.size A8 _ n8 c8 (HBW.o w8 HB8.o) hn8 (by rw[<-hn8];exact HCLN.o) hb8.size ho8);clear hn8 ho8 hb8 HC;go_wp2_with fail;refine⟨HB8.o,?_⟩
  repeat ((first|(refine Zaf _ (by rfl) (fun W hW=>by (have x0:=HSC.o W hW;go_simp;try with_reducible rfl)) ?_)|(refine Zac (by rfl) ?_));simp only[Act.put,xq1,xq2,xq3])
  refine Zae ?_;go_wp2_with fail;refine HN.o.mono ?_;rintro e w9 ⟨A9,c9,k9,rfl,hk9,ho9,hb9⟩;have HB9:Hid (Below w2.heap.size w2 w9):=zh (HB8.o.trans (hb9.mono HBD.o.size));have HR9:=zh (And.intro hk9 ho9);clear hk9 ho9 hb9 HN;go_wp2_with fail;refine⟨HB9.o,?_⟩
  repeat ((first|(refine Zaf _ (by rfl) (fun W hW=>by (have x0:=HSC.o W hW;go_simp;try with_reducible rfl)) ?_)|(refine Zac (by rfl) ?_));simp only[Act.put,xq1,xq2,xq3])
  refine Zah ?_;go_wp2_with fail;go_ret;rw[HCU2.o];exact⟨A9,k9,c9,rfl,HR9.o.1,Zcz HR9.o.2 (Nat.le_trans HB2.o.size HBD.o.size),HBW.o w9 HB9.o⟩
 ·have hyc:(y:Int)=4\/(y:Int)=6:=by omega
  have HMV:Hid ((curM tb pb (.int .i64 (y:Int))).getD .nilFunc = .nilFunc):=zh (by rw[Zoq hyc];rfl);have HMI:Hid ((curM tb pb (.int .i64 (y:Int))).isSome=false):=zh (by rw[Zoq hyc];rfl);have HKEY:=zh (keyOf_int_mk (P:=Tryz.prog) Tryz.underlying47 (a:=(y:Int)) (by have:=HLL.o;simp[Lit.wf,IntKind.min,IntKind.max,IntKind.signed,IntKind.bits];omega));have HNIL:Hid (cureP E y p i now c.crowd = []):=zh (by rw[HCU2.o,hcl];exact Zbo _);clear hyc hcl hy
  go_wp2_with (first
   | (at_lookup;refine Za0 _ rfl _ _ 129 rfl 47 93 (int_keyed Tryz.underlying47) Tryz.underlying129 okAll _ (zeroFn _) rfl mb 4 _ rfl HM8.o _ _ rfl HKEY.o _ HMV.o _ HMI.o ?_)
   | fail)
  go_ret;rw[HNIL.o];exact⟨none,0,0,rfl,rfl,own_nil _ _ _ _,HBW.o w7 HB7.o⟩
end Go.Proofs.YtnpfaajhgghpgaaGreatDoor
