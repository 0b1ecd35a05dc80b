/- A part of the joined base. -/
import Derived.Test.YtphmhbcimhlcjaaGreatDoorU35
import Derived.KernelRfl
set_option linter.unusedVariables false
set_option maxHeartbeats 8000000
set_option maxRecDepth 100000
namespace Go.Proofs.YtphmhbcimhlcjaaGreatDoor
open Go.Shelf Go.RowKit Go.Maps
open Ru (Fz fzA fzX Nd holdsR RuleV ruleT Says errOf ErrAt TabAt)
theorem Zin {l:List (Nat×List Ev)}{j:Nat}{x:Nat×List Ev}(h:l[j]? = some x):evsC (l.take (j+1))=evsC (l.take j)++x.2:=by
 rw[Zbd h];unfold evsC;rw[List.flatMap_append];simp
theorem Zra {l:List (Nat×List Ev)}{j k:Nat}(h:∀x∈l,x.2.length<=k):(evsC (l.take j)).length<=j*k:=by
 induction j with
 | zero=>simp[evsC]
 | succ j ih=>
  cases hx:l[j]? with
  | none=>
   have hl:=List.getElem?_eq_none_iff.1 hx;rw[List.take_of_length_le (by omega)]at ih ⊢;rw[Nat.add_mul];omega
  | some x=>
   rw[Zin hx,List.length_append];have:=h x (List.mem_of_getElem? hx);rw[Nat.add_mul];omega
theorem whof_no (w:World)(wb:Nat)(s:Sg)(r:Option Nd)(hs:SgOk s r)(p i:ByteArray)(now:Int)(hpz:p.size<=60)(hiz:i.size<=60)(ht:toldB p i now=false)(hg:Lb2 w) :
  Calls Tryz.prog 9 #[.pointer (some ⟨wb,0,none⟩),sgA s,.string p,.string i,.int .i64 now] w fun e w'=>e = .returned (.slice none 0 0)/\Below w.heap.size w w':=by
 obtain⟨w1,hw1⟩:=zG (w.alloc (.cells (sgArr s) 37));have HX1:Hid (Blk w1 w.heap.size 37 (sgArr s)):=zB hw1;have HB1:=zA hw1;have HAS:=zh (Zrt s r hs p i now hpz hiz ht w1 (hg.keep HB1.o));have hsz:(sgArr s).size=22:=rfl;obtain⟨sa,hsa⟩:=zG (sgArr s);unfold sgA at HAS ⊢;rw[hsa]at hw1 HAS HX1 hsz ⊢;have HSI:Hid ((Tryz.prog.info? 37).map (·.size)=some sa.size):=zh (by rw[hsz];exact Zb6);clear hs hg ht hpz hiz hsa hsz;go_enter Tryz.func9,Tryz.ntmps9
 go_wp2_with (first
  | (refine wpList_load_row rfl 37 _ rfl w.heap.size rfl 37 sa (0,0) _ HX1.o Tryz.underlying37 rfl HSI.o ?_)
  | fail)
 refine HAS.o.mono ?_;rintro e w2 ⟨rfl,hb2⟩;have HB2:=zT HB1 hb2;clear hb2 HAS hw1 HX1 HSI HB1
 go_wp2_with (first
  | (refine Zad _ rfl 81 (.tmp 11) (.tmp 24) rfl 0 (qArr none ⟨#[]⟩ ⟨#[]⟩ 0) rfl rfl (Blk.new _ _ _) (by show 0+4<=4;omega) Zc0 (by simp[qArr,Value.oneCell']) ?_;intro w3 hb3 hk3 hs3)
  | fail)
 (try simp only[Exit.inBlock,Exit.then])
 have HB3:Hid (Below w.heap.size w w3):=zh (HB2.o.trans ((((Below.refl _ _).alloc (zr _) _).trans (hk3.toBelow (fun i hi=>by rw[hi];exact zr _) (by simp))).mono HB2.o.size));clear hb3 hk3 hs3;go_wp2_with fail;go_ret;exact⟨rfl,HB3.o⟩
theorem cures_yes {w:World}{wb ct cr:Nat}{c:Cfg}{E:List Ev}(h:WrAt w wb ct cr c E)(hE:WnE 200 E)(hc:CfgOk c)(hcr:c.crowd<=12)(s:Sg)(r:Option Nd)(hs:SgOk s r)(p i:ByteArray)(now:Int)(ht:toldB p i now=true)(hg:Lb2 w)
  (l:List (Nat×List Ev)) (us:List (Nat×Value)) (A:Option Addr) (n cp:Nat) (hn:l.length=n) (hn6:n<=6) (hrow:RowIn w w.heap.size 2 A n (us.flatMap chC)) (hins:ChsIn w us l) (hok:∀e∈evsC l,EvOk e) (hl12:∀x∈l,x.2.length<=12) :
  Calls Tryz.prog 21 #[.pointer (some ⟨wb,0,none⟩),sgA s,.string p,.string i,.int .i64 now,.slice A n cp] w fun e w'=>∃E3,AnewIs fmtB (E++evsC l) E3/\e = .returned (.bool (decide (whyW E3 p i now c.crowd c.span (some r)=0)))/\Below w.heap.size w w':=by
 obtain⟨hp,hi,hn1,hn2⟩:=Zek ht;have hpz:=Zay hp;have hiz:=Zay hi;obtain⟨w1,hw1⟩:=zG (w.alloc (.cells (sgArr s) 37));have HX1:Hid (Blk w1 w.heap.size 37 (sgArr s)):=zB hw1;have HB1:=zA hw1;have HAS:=zh (Zor s r hs p i now ht w1 (hg.keep HB1.o));have HW:=zh (h.below HB1.o);have HLB:Hid (∀W,Below w1.heap.size w1 W->Lb2 W):=zh (fun W hb=>(hg.keep HB1.o).keep hb);have HWN:=zh hE;have HCF:Hid (CfgOk c/\c.crowd<=12):=zh ⟨hc,hcr⟩;have HNM:Hid (nameB p=true/\nameB i=true/\0<=now/\now<=1099511627776/\p.size<=24/\i.size<=24):=zh ⟨hp,hi,hn1,hn2,hpz,hiz⟩;have HTL:=zh (And.intro hrow (And.intro hins hn));have HOK:=zh hok;have HLL:Hid (n<=6/\(∀x∈l,x.2.length<=12)):=zh ⟨hn6,hl12⟩;have hsz:(sgArr s).size=22:=rfl;obtain⟨sa,hsa⟩:=zG (sgArr s);unfold sgA at HAS ⊢;rw[hsa]at hw1 HAS HX1 hsz ⊢;have HSI:Hid ((Tryz.prog.info? 37).map (·.size)=some sa.size):=zh (by rw[hsz];exact Zb6);clear h hE hc hcr hs hg hrow hins hn hok hn6 hl12 ht hp hi hn1 hn2 hpz hiz hsa hsz;go_enter Tryz.func21,Tryz.ntmps21
 go_wp2_with (first
  | (refine wpList_load_row rfl 37 _ rfl w.heap.size rfl 37 sa (0,0) _ HX1.o Tryz.underlying37 rfl HSI.o ?_)
  | fail)
 refine HAS.o.mono ?_;rintro e w2 ⟨qq,rfl,HR2,hb2⟩;have HR2:=zh HR2;have HB2:Hid (Below w1.heap.size w1 w2):=zh hb2;clear hb2 HAS hw1 HX1 HSI;have HRZ:Hid (Below w1.heap.size w1 w2):=HB2
 go_wp2_with (first
  | (refine Zad _ rfl 81 (.tmp 13) (.tmp 26) rfl 0 (qArr qq p i now) rfl rfl (Blk.new _ _ _) (by show 0+4<=4;omega) Zc0 (by simp[qArr,Value.oneCell']) ?_;intro w3 hb3 hk3 hs3)
  | fail)
 (try simp only[Exit.inBlock,Exit.then])
 simp only[qArr,putA,xq1,xq2,xq3]at hb3;have hx3:Blk w3 w2.heap.size 81 (qArr qq p i now):=hb3;obtain⟨rb,hrb⟩:=zG (w2.heap.size);have HZ3:Hid (w1.heap.size<=w2.heap.size/\w2.heap.size<=w3.heap.size/\rb=w2.heap.size):=zh ⟨HB2.o.size,by have:=hk3.size;simp at this;omega,hrb.symm⟩;have HB3:Hid (Below w2.heap.size w2 w3):=zh (((Below.refl _ _).alloc (zr _) _).trans (hk3.toBelow (fun i hi=>by rw[hi];exact zr _) (by simp)));have HX3:Hid (Blk w3 rb 81 (qArr qq p i now)):=zh (by rw[<-hrb];exact hx3);clear hb3 hk3 hs3 hx3;try rw[hrb]
 clear hrb;have HB13:=zT HB2 HB3.o;have HR3:=zh (HR2.o.below HB3.o);have HW3:=zh (HW.o.below HB13.o);clear HW HR2 HB2 HB3;obtain⟨qv,hqv⟩:=zG (qArr qq p i now);have HQS:Hid ((Tryz.prog.info? 81).map (·.size)=some qv.size):=zh (by rw[Zc0,<-hqv];rfl)
 have HWHY:Hid (∀W wb' ct' cr' E',Below w3.heap.size w3 W->WrAt W wb' ct' cr' c E'->WnE 400 E'->Calls Tryz.prog 27 #[.agg qv,.pointer (some ⟨wb',0,none⟩)] W fun e w'=>e = .returned (.int .i64 (whyW E' p i now c.crowd c.span (some r):Nat))/\Below W.heap.size W w'):=zh (fun W wb' ct' cr' E' hb hW hE=>by
  have hb1:=HB13.o.trans (hb.mono HB13.o.size);obtain⟨hp,hi,hn1,hn2,hpz,hiz⟩:=HNM.o;rw[<-hqv];exact why_any hW hE.ok (by have:=hE.few;omega) (HR3.o.below hb) (HLB.o W hb1).g p i now (by omega) (by omega) (by unfold InR;omega))
 rw[hqv]at HX3;have HQV:=zh hqv;clear hqv HR3;have HCFG:Hid (∀W,Below w3.heap.size w3 W->Calls Tryz.prog 29 #[.pointer (some ⟨wb,0,none⟩)] W fun e w'=>e = .returned (cfgA c)/\Below W.heap.size W w'):=zh (fun W hb=>Zc8 (HW3.o.below hb));obtain⟨ne,hne⟩:=zG (E.length);have HNL:Hid (E.length=ne/\ne<=200):=zh ⟨hne,by have:=HWN.o.few;omega⟩;have HC:=zh (Zch HW3.o (by have:=HWN.o.few;omega));rw[hne]at HC;clear hne;go_wp2_with fail;refine HC.o.mono ?_;rintro e w4 ⟨A4,c4,rfl,ho4,hb4⟩;have HB4:Hid (Below w3.heap.size w3 w4):=zh hb4;have HO4:=zh ho4;clear HC ho4 hb4;have HIN3:Hid (RowIn w3 w.heap.size 2 A n (us.flatMap chC)/\ChsIn w3 us l):=zh ⟨HTL.o.1.below (HB1.o.trans (HB13.o.mono HB1.o.size)),HTL.o.2.1.below (HB1.o.trans (HB13.o.mono HB1.o.size))⟩;have HWZ:Hid (w.heap.size<=w3.heap.size):=zh (HB1.o.trans (HB13.o.mono HB1.o.size)).size;go_wp2_with fail;go_loopw [15,34] (fun ev iv wr=>∃(j m:Nat) (A':Option Addr) (c':Nat),ev = .slice A' m c'/\iv = .int .i64 j/\j<=n/\Hid (wr.ownsRow w3.heap.size 66 8 (.slice A' m c') m ((E++evsC (l.take j)).flatMap evC))/\Hid ((E++evsC (l.take j)).length=m)/\Hid (Below w3.heap.size w3 wr)) (fun _ iv _=>n - (intOf iv).toNat)
 case atStart=>exact⟨0,ne,A4,c4,rfl,rfl,Nat.zero_le _,zh (by rw[List.take_zero,show evsC [] = [] from rfl,List.append_nil];exact HO4.o),zh (by rw[List.take_zero,show evsC [] = [] from rfl,List.append_nil];exact HNL.o.1),HB4⟩
 case round=>
  obtain⟨j,m,A',c',rfl,rfl,hj,HOW,HLN,HBR⟩:=hrel
  have HML:Hid (m<=300):=zh (by
   rw[<-HLN.o,List.length_append];have h1:=Zra (j:=j) HLL.o.2;have h2:=HNL.o;have h3:=HLL.o.1;omega)
  by_cases hlt:j<n
  ·obtain⟨x,hx⟩:∃x,l[j]? = some x:=⟨l[j]'(by rw[HTL.o.2.2];exact hlt),List.getElem?_eq_getElem _⟩
   obtain⟨u,hu⟩:∃u,us[j]? = some u:=⟨us[j]'(by rw[HTL.o.2.1.1,HTL.o.2.2];exact hlt),List.getElem?_eq_getElem _⟩
   obtain⟨b,off,rfl,hb,hcl⟩:=HIN3.o.1.at (by omega);obtain⟨hu1,A5,c5,hu2,he5,hnil⟩:=HIN3.o.2.2 j u x hu hx;obtain⟨u1,u2⟩:=u;dsimp only at hu1 hu2;subst hu2;obtain⟨k5,hk5⟩:=zG (x.2.length);have HK5:Hid (x.2.length=k5/\k5<=12):=zh ⟨hk5,by rw[<-hk5];exact HLL.o.2 x (List.mem_of_getElem? hx)⟩;rw[hk5]at hu;have HE5:Hid (RowIn w3 w3.heap.size 8 A5 k5 (x.2.flatMap evC)/\(A5=none->c5=0)):=zh ⟨by have h:=he5;unfold EvsAt at h;rwa [hk5]at h,hnil⟩;have c0:World.cell? wr ⟨b,off+j*2,none⟩=some (.int .i64 (u1:Int)):=(HBR.o.cell (p:=⟨b,off+j*2,none⟩) (by have:=HWZ.o;show b<_;omega)).trans (hcl (j*2) _ (Zbi chC 2 Zos us j 0 _ hu (by omega)));have c1:World.cell? wr ⟨b,off+j*2+1,none⟩=some (.slice A5 k5 c5):=(HBR.o.cell (p:=⟨b,off+j*2+1,none⟩) (by have:=HWZ.o;show b<_;omega)).trans (hcl (j*2+1) _ (Zbi chC 2 Zos us j 1 _ hu (by omega)));have HEV:=zh (Zin hx);have hj8:(j:Int)<(n:Int):=by omega
   have hj9:(0:Int)<=(j:Int):=by omega
   clear hcl hu he5 hnil hk5 hx hu1 hb
   go_upto_region 8 with (first
    | (refine Zad _ rfl 50 (.tmp 17) (.tmp 37) rfl 0 #[.int .i64 (u1:Int),.slice A5 k5 c5] rfl rfl (Blk.new _ _ _) (by show 0+2<=2;omega) Zjn (by simp[Value.oneCell']) ?_;intro w6 hb6 hk6 hs6)
    | fail)
   (try simp only[Exit.inBlock,Exit.then])
   simp only[putA,xq1,xq2,xq3]at hb6;have HB6:Hid (Below wr.heap.size wr w6):=zh (((Below.refl _ _).alloc (zr _) _).trans (hk6.toBelow (fun i hi=>by rw[hi];exact zr _) (by simp)));have HC6:Hid (Blk w6 wr.heap.size 50 #[.int .i64 (u1:Int),.slice A5 k5 c5]):=zh hb6;obtain⟨cb,hcb⟩:=zG (wr.heap.size);rw[hcb]at HC6;clear hb6 hk6 hs6 c0 c1;try rw[hcb]
   clear hcb;have x1:w6.cell? ⟨cb,1,none⟩=some (.slice A5 k5 c5):=HC6.o.cell 1;have HBR6:=zT HBR HB6.o;have HO6:=zh (Ru.Za9 HOW.o HB6.o);have HR6:=zh (HE5.o.1.below HBR6.o);obtain⟨i1,hi1,hy1,hy2,hy3⟩:=info_parts Zdd;have hn6:=HLL.o.1
   go_wp2_with (first
    | (at_builtin;refine Zaa _ rfl _ _ 22 rfl w3.heap.size 66 i1 _ 8 96 Tryz.underlying22 hi1 hy1 hy2 hy3 rfl (by omega) (.slice A' m c') m _ rfl HO6.o w3.heap.size A5 k5 c5 (x.2.flatMap evC) rfl HR6.o HE5.o.2 (Zb1 x.2) (by have:=HML.o;have:=HK5.o;unfold maxLen;omega) (by have:=HML.o;have:=HK5.o;omega) HBR6.o.size ?_;intro v9 w9 ho9 hg9 hv9)
    | fail)
   obtain⟨A9,c9,rfl⟩:=Zbh ho9;rw[<-List.flatMap_append,List.append_assoc,<-HEV.o]at ho9;have HO9:=zh ho9;have HB9:Hid (Below w3.heap.size w3 w9):=zh (HBR6.o.grown hg9 HBR6.o.size (fun j hj=>(Zd1 HO6.o hj).1));clear ho9 hg9 hv9 hi1 hy1 hy2 hy3 x1;go_wp2_with fail;go_roundw
   case rel=>exact⟨j+1,m+k5,A9,c9,rfl,by go_num,by omega,HO9,zh (by rw[HEV.o,<-List.append_assoc,List.length_append,HLN.o,HK5.o.1]),HB9⟩
   case measure=>simp[intOf];omega
  ·obtain rfl:j=n:=by omega
   have hjn:¬(j:Int)<(j:Int):=by omega
   have HALL:Hid (l.take j=l):=zh (by rw[<-HTL.o.2.2,List.take_length]);rw[HALL.o]at HOW HLN;have HC:=zh (HCFG.o wr HBR.o);unfold cfgA at HC;clear hlt;go_wp2_with fail;refine HC.o.mono ?_;rintro e w5 ⟨rfl,hb5⟩;have HB5:=zT HBR hb5;have HO5:=zh (Ru.Za9 HOW.o hb5);have hlb:=HLB.o w5 (HB13.o.trans (HB5.o.mono HB13.o.size))
   have HC:=zh (wof_any c w5 w5.heap.size A' (E++evsC l) m c' HCF.o.1 HLN.o (by unfold EvsAt;rw[HLN.o];exact RowIn.of_own HO5.o) (zr _) (by have:=HML.o;omega) (fun e he=>by
    rcases List.mem_append.1 he with h|h
    ·exact HWN.o.ok e h
    ·exact HOK.o e h) hlb.g hlb.k hlb.t)
   unfold cfgA at HC;clear hb5 hlb;go_wp2_with fail;refine HC.o.mono ?_;rintro e w6 ⟨wb2,base2,E2,rfl,han,hwa,hbs,hb6⟩;obtain⟨ct2,cr2,hw2⟩:=hwa.read;have HAN:=zh han;have HB6:=zT HB5 hb6;have HXR:Hid (Blk w6 rb 81 qv):=zh ((HB6.o.block _ HX3.o.lt).trans HX3.o)
   have HC:=zh (HWHY.o w6 wb2 ct2 cr2 E2 HB6.o hw2 ⟨han.closed,fun e he=>(by
    rcases List.mem_append.1 (han.sub he) with h|h
    ·exact HWN.o.ok e h
    ·exact HOK.o e h),by have:=han.few;have:=HLN.o;have:=HML.o;omega⟩)
   clear hwa han hbs hb6 hw2;rw[<-HQV.o]at HXR HC;have x0:w6.cell? ⟨rb,0,none⟩=some (.pointer qq):=HXR.o.cell 0;have x1:w6.cell? ⟨rb,1,none⟩=some (.string p):=HXR.o.cell 1;have x2:w6.cell? ⟨rb,2,none⟩=some (.string i):=HXR.o.cell 2;have x3:w6.cell? ⟨rb,3,none⟩=some (.int .i64 now):=HXR.o.cell 3;unfold qArr at HC;obtain⟨y,hy⟩:=zG (whyW E2 p i now c.crowd c.span (some r));rw[hy]at HC;have HY:=zh hy;clear hy;go_wp2_with fail;refine HC.o.mono ?_;rintro e w7 ⟨rfl,hb7⟩;have HB7:Hid (Below w.heap.size w w7):=zh (HB1.o.trans ((HB13.o.trans ((HB6.o.trans (hb7.mono HB6.o.size)).mono HB13.o.size)).mono HB1.o.size));clear hb7;go_wp2_with fail;go_ret;refine⟨E2,HAN.o,?_,HB7.o⟩;rw[HY.o];by_cases h0:y=0
   ·subst h0;rfl
   ·have d0:((y:Int) == 0)=false:=by rw[beq_eq_false_iff_ne];omega
    show Ending.returned (.bool ((y:Int) == 0))=_;rw[d0,decide_eq_false h0]
end Go.Proofs.YtphmhbcimhlcjaaGreatDoor
namespace Go.Proofs.YtphmhbcimhlcjaaGreatDoor.Ru
open Go.RowKit Go.Maps Go.Shelf
theorem Zjo {n:Nd}{s:ByteArray}(hn:NF n)(hd:0+dep n 1<=40)(ht:tkN n 1=tkS s)(hz:s.size<=2000)(hne:toks s≠[]):Says s (some (some n)) 0:=by
 obtain⟨ns,hp,e⟩:=Zpv hn 0 0 (by omega) hd [] Zpw;rw[List.append_nil,show (0:Nat)+1=1 from rfl,ht,<-Zi8]at hp;have:=Says.good hz hne hp
 rwa [e]at this
def rl0:ByteArray:=⟨#[]⟩
def rl1:ByteArray:=⟨#[115,116,111,99,107,62,48]⟩
def rl2:ByteArray:=⟨#[110,111,116,32,116,97,103,58,120]⟩
def rl3:ByteArray:=⟨#[112,114,105,99,101,60,53,32,111,114,32,102,111,108,108,111,119,115]⟩
theorem dec0:Lib.decDigits 0 = [48]:=by
 rw[Lib.decDigits,dif_pos (by decide)]
 rfl
theorem dec5:Lib.decDigits 5 = [53]:=by
 rw[Lib.decDigits,dif_pos (by decide)]
 rfl
theorem leafS:leafT (.num 1 false 0)=rl1:=by
 refine Za5 ?_;simp only[leafT,Za6,Zak,dec0]
 rfl
theorem leafP:leafT (.num 0 true 5)=⟨#[112,114,105,99,101,60,53]⟩:=by
 refine Za5 ?_;simp only[leafT,Za6,Zak,dec5]
 rfl
theorem says0:Says rl0 (some none) 0:=Says.empty (by decide) (by rw[Zez];decide)
theorem says1:Says rl1 (some (some (.atom (.num 1 false 0)))) 0:=by
 refine Zjo (.atom ⟨by decide,by decide⟩) (by decide) ?_ (by decide) (by rw[Ne,Zez];decide);rw[tkN,leafS]
 rfl
theorem says2:Says rl2 (some (some (.no (.atom (.tag ⟨#[120]⟩))))) 0:=by
 refine Zjo (.no (.atom (show nameB _=true by decide))) (by decide) ?_ (by decide) (by rw[Ne,Zez];decide);simp only[tkN]
 rfl
theorem says3:Says rl3 (some (some (.row 0 [.atom (.num 0 true 5),.atom .follows]))) 0:=by
 refine Zjo (.row (by omega) (fun n hn=>?_) (fun n hn l=>?_) (by decide)) (by decide) ?_ (by decide) (by rw[Ne,Zez];decide)
 ·simp at hn;rcases hn with rfl|rfl
  ·exact .atom ⟨by decide,by decide⟩
  ·exact .atom trivial
 ·simp at hn;rcases hn with rfl|rfl <;> (intro e;cases e)
 ·simp only[tkN,tkL,tkM,leafP]
  rfl
def ruleL (k:Nat):ByteArray:=if k=0 then rl0 else if k=1 then rl1 else if k=2 then rl2 else rl3
theorem Zth (k:Nat):∃r a,Says (ruleL k) (some r) a/\(k=0->r=none):=by
 unfold ruleL;split
 ·exact⟨_,_,says0,fun _=>rfl⟩
 split
 ·exact⟨_,_,says1,fun h=>absurd h (by assumption)⟩
 split
 ·exact⟨_,_,says2,fun h=>absurd h (by assumption)⟩
 ·exact⟨_,_,says3,fun h=>absurd h (by assumption)⟩
theorem Zl9 (k:Nat):(ruleL k).size<=1000:=by
 unfold ruleL;split
 ·decide
 split
 ·decide
 split <;> decide
end Go.Proofs.YtphmhbcimhlcjaaGreatDoor.Ru
namespace Go.Proofs.YtphmhbcimhlcjaaGreatDoor
open Go.Shelf Go.RowKit Go.Maps
open Ru (Fz fzA fzX Nd holdsR RuleV ruleT Says errOf ErrAt TabAt)
structure Sm where
 cfg:Cfg
 g0:Int
 g1:Int
 g2:Int
 g3:Int
 g4:Int
 g5:Int
 sz:Int
 ev:Int
 lm:Int
 sl:Int
 mq:Int
 wh:Int
def smArr (x:Sm):Array Value:=#[.int .i64 x.cfg.half,.int .i64 x.cfg.width,.int .i64 x.cfg.gap,.int .i64 x.cfg.span,.int .i64 x.cfg.floor,.int .i64 x.cfg.crowd,.int .i64 x.g0,.int .i64 x.g1,.int .i64 x.g2,.int .i64 x.g3,.int .i64 x.g4,.int .i64 x.g5,.int .u8 x.sz,.int .u8 x.ev,.int .u8 x.lm,.int .u8 x.sl,.int .u8 x.mq,.int .u8 x.wh]
def smA (x:Sm):Value:=.agg (smArr x)
structure SmIn (x:Sm):Prop where
 sz:0<=x.sz/\x.sz<=255
 ev:0<=x.ev/\x.ev<=255
 lm:0<=x.lm/\x.lm<=255
 sl:0<=x.sl/\x.sl<=255
 mq:0<=x.mq/\x.mq<=255
 wh:0<=x.wh/\x.wh<=255
def ownS:ByteArray:=⟨#[111,119,110]⟩
structure SgL (x:Sm) (s:Sg):Prop where
 cfg:s.cfg=x.cfg
 slack:0<=s.slack/\s.slack<=5100
 idle:s.idle=0
 limit:0<=s.limit/\s.limit<=11
 every:0<=s.every/\s.every<=3
 own:s.own=ownS
 rule:s.rule=Ru.ruleL (x.wh.toNat % 4)
theorem SgL.ok {x:Sm}{s:Sg}(h:SgL x s)(hc:CfgOk x.cfg){r:Option Nd}{a:Nat}(hr:Says (Ru.ruleL (x.wh.toNat % 4)) (some r) a):SgOk s r:=
 ⟨by rw[h.cfg];exact hc,by have:=h.slack;omega,by have:=h.idle;omega,by have:=h.limit;omega,by have:=h.every;omega,by rw[h.own];decide,by rw[h.rule];exact Ru.Zl9 _,by rw[h.rule];exact⟨a,hr⟩⟩
theorem Zd2 {a b:Int}(ha:0<=a):a.tmod b=a % b:=Int.tmod_eq_emod_of_nonneg ha
theorem sof_any (x:Sm)(hx:SmIn x)(w:World):Calls Tryz.prog 7 #[smA x] w fun e w'=>∃s,e = .returned (sgA s)/\SgL x s/\Below w.heap.size w w':=by
 obtain⟨⟨f0,f1,f2,f3,f4,f5⟩,g0,g1,g2,g3,g4,g5,sz,ev,lm,sl,mq,wh⟩:=x;obtain⟨h0,h1,h2,h3,h4,h5⟩:=hx;dsimp only at h0 h1 h2 h3 h4 h5;obtain⟨w1,hw1⟩:=zG (w.alloc (.cells (smArr ⟨⟨f0,f1,f2,f3,f4,f5⟩,g0,g1,g2,g3,g4,g5,sz,ev,lm,sl,mq,wh⟩) 28));have HX1:Hid (Blk w1 w.heap.size 28 (smArr ⟨⟨f0,f1,f2,f3,f4,f5⟩,g0,g1,g2,g3,g4,g5,sz,ev,lm,sl,mq,wh⟩)):=zB hw1;have HB1:=zA hw1;unfold smA;unfold smArr at hw1 ⊢;dsimp only at hw1 ⊢;obtain⟨w2,hw2⟩:=zG (w1.alloc (.cells #[.int .i64 0,.int .i64 0,.int .i64 0,.int .i64 0,.int .i64 0,.int .i64 0,.int .i64 0,.int .i64 0,.int .i64 0,.int .i64 0,.int .i64 0,.int .i64 0,.int .i64 0,.int .i64 0,.int .i64 0,.int .i64 0,.int .i64 0,.int .i64 0,.int .i64 0,.string ⟨#[]⟩,.string ⟨#[]⟩,.int .u64 0] 37));obtain⟨w3,hw3⟩:=zG (w2.alloc (.cells #[.string ⟨#[]⟩,.string ⟨#[115,116,111,99,107,62,48]⟩,.string ⟨#[110,111,116,32,116,97,103,58,120]⟩,.string ⟨#[112,114,105,99,101,60,53,32,111,114,32,102,111,108,108,111,119,115]⟩] 9));obtain⟨rb,hrb⟩:=zG (w1.heap.size);obtain⟨sb,hsb⟩:=zG (rb+1);have hz2:w2.heap.size=sb:=by rw[<-hw2,<-hsb,<-hrb];simp
 have HR3:Hid (Blk w3 rb 37 #[.int .i64 0,.int .i64 0,.int .i64 0,.int .i64 0,.int .i64 0,.int .i64 0,.int .i64 0,.int .i64 0,.int .i64 0,.int .i64 0,.int .i64 0,.int .i64 0,.int .i64 0,.int .i64 0,.int .i64 0,.int .i64 0,.int .i64 0,.int .i64 0,.int .i64 0,.string ⟨#[]⟩,.string ⟨#[]⟩,.int .u64 0]):=zh (by rw[<-hw3,<-hrb];exact Blk.alloc (by rw[<-hw2];exact Blk.new _ _ _) _);have HS3:Hid (Blk w3 sb 9 #[.string ⟨#[]⟩,.string ⟨#[115,116,111,99,107,62,48]⟩,.string ⟨#[110,111,116,32,116,97,103,58,120]⟩,.string ⟨#[112,114,105,99,101,60,53,32,111,114,32,102,111,108,108,111,119,115]⟩]):=zh (by rw[<-hw3,<-hz2];exact Blk.new _ _ _);have HX3:Hid (Blk w3 w.heap.size 28 (smArr ⟨⟨f0,f1,f2,f3,f4,f5⟩,g0,g1,g2,g3,g4,g5,sz,ev,lm,sl,mq,wh⟩)):=zh (by rw[<-hw3,<-hw2];exact (HX1.o.alloc _).alloc _)
 have HB3:Hid (Below w.heap.size w w3):=zh (by
  rw[<-hw3];have hb2:Below w.heap.size w w2:=by rw[<-hw2];exact HB1.o.alloc HB1.o.size _
  exact hb2.alloc hb2.size _)
 have HRB:Hid (w.heap.size<=rb/\rb<w3.heap.size):=zh ⟨by rw[<-hrb];exact HB1.o.size,HR3.o.lt⟩;have HWR:Hid (w.heap.size<rb):=zh (by rw[<-hrb,<-hw1];simp);obtain⟨k,hk⟩:=zG (wh.toNat % 4);have hk4:k<4:=by omega
 have hkm:wh.tmod 4=(k:Int):=by rw[Zd2 h5.1];omega
 have hk8:(k:Int)<4:=by omega
 have hk9:(0:Int)<=(k:Int):=by omega
 have HRU:Hid (∀W,Kept (fun b=>b=rb) w3 W->World.cell? W ⟨sb,k,none⟩=some (.string (Ru.ruleL k))):=zh (fun W hb=>by
  have hs:Blk W sb 9 #[.string ⟨#[]⟩,.string ⟨#[115,116,111,99,107,62,48]⟩,.string ⟨#[110,111,116,32,116,97,103,58,120]⟩,.string ⟨#[112,114,105,99,101,60,53,32,111,114,32,102,111,108,108,111,119,115]⟩]:=HS3.o.kept hb (by omega);have hh:k=0\/k=1\/k=2\/k=3:=by omega
  rcases hh with rfl|rfl|rfl|rfl
  ·exact hs.cell 0
  ·exact hs.cell 1
  ·exact hs.cell 2
  ·exact hs.cell 3)
 have HSC:Hid (∀W,Kept (fun b=>b=rb) w3 W->(World.cell? W ⟨w.heap.size,0,none⟩=some (.int .i64 f0)/\World.cell? W ⟨w.heap.size,1,none⟩=some (.int .i64 f1)/\World.cell? W ⟨w.heap.size,2,none⟩=some (.int .i64 f2)/\World.cell? W ⟨w.heap.size,3,none⟩=some (.int .i64 f3)/\World.cell? W ⟨w.heap.size,4,none⟩=some (.int .i64 f4)/\World.cell? W ⟨w.heap.size,5,none⟩=some (.int .i64 f5)/\World.cell? W ⟨w.heap.size,6,none⟩=some (.int .i64 g0)/\World.cell? W ⟨w.heap.size,7,none⟩=some (.int .i64 g1)/\World.cell? W ⟨w.heap.size,8,none⟩=some (.int .i64 g2)/\World.cell? W ⟨w.heap.size,9,none⟩=some (.int .i64 g3)/\World.cell? W ⟨w.heap.size,10,none⟩=some (.int .i64 g4)/\World.cell? W ⟨w.heap.size,11,none⟩=some (.int .i64 g5)/\World.cell? W ⟨w.heap.size,12,none⟩=some (.int .u8 sz)/\World.cell? W ⟨w.heap.size,13,none⟩=some (.int .u8 ev)/\World.cell? W ⟨w.heap.size,14,none⟩=some (.int .u8 lm)/\World.cell? W ⟨w.heap.size,15,none⟩=some (.int .u8 sl)/\World.cell? W ⟨w.heap.size,16,none⟩=some (.int .u8 mq)/\World.cell? W ⟨w.heap.size,17,none⟩=some (.int .u8 wh)/\World.cell? W ⟨sb,k,none⟩=some (.string (Ru.ruleL k)))):=zh (fun W hb=>by
  have hx:Blk W w.heap.size 28 (smArr ⟨⟨f0,f1,f2,f3,f4,f5⟩,g0,g1,g2,g3,g4,g5,sz,ev,lm,sl,mq,wh⟩):=HX3.o.kept hb (by have:=HWR.o;omega);exact⟨hx.cell 0,hx.cell 1,hx.cell 2,hx.cell 3,hx.cell 4,hx.cell 5,hx.cell 6,hx.cell 7,hx.cell 8,hx.cell 9,hx.cell 10,hx.cell 11,hx.cell 12,hx.cell 13,hx.cell 14,hx.cell 15,hx.cell 16,hx.cell 17,HRU.o W hb⟩)
 have m1:sz.tmod 8=sz % 8:=Zd2 h0.1;have m2:mq.tmod 4=mq % 4:=Zd2 h4.1;have m3:lm.tmod 12=lm % 12:=Zd2 h2.1;have m4:ev.tmod 4=ev % 4:=Zd2 h1.1;clear hk4 HX1 HS3 HX3 HRU;go_enter Tryz.func7,Tryz.ntmps7;go_upto_region 2 with fail;try rw[hrb]
 try rw[hsb]
 try rw[hw2]
 try rw[hw3]
 clear hrb hsb hw1 hw2 hw3 hz2;refine Zar (fun W=>Kept (fun b=>b=rb) w3 W) [(0,false),(1,false),(2,false),(3,false),(4,false),(5,false),(6,false),(7,false),(8,false),(9,false),(10,false),(11,false),(12,false),(13,false),(14,false),(15,false),(16,false),(17,false),(18,false),(19,false),(20,false),(21,false),(22,false),(23,false),(24,false),(25,false),(26,false),(27,false),(28,false),(29,false),(30,false),(31,false),(32,false),(33,false),(34,false),(35,true)] (by kernel_rfl) (by kernel_rfl) ((Kept.refl _ _).drew) ?_;simp only[planL,xq4,xq5];obtain⟨wd,hwd⟩:=zG (w3.drew);have HBD:Hid (Kept (fun b=>b=rb) w3 wd):=zh (by rw[<-hwd];exact (Kept.refl _ _).drew);have HDD:=zD hwd;rw[hwd];clear hwd
 repeat ((first|(refine Zaf _ (by rfl) (fun W hW=>by (obtain⟨c0,c1,c2,c3,c4,c5,c6,c7,c8,c9,c10,c11,c12,c13,c14,c15,c16,c17,d0⟩:=HSC.o W hW;go_simp;try with_reducible rfl)) ?_)|(refine Zac (by rfl) ?_));simp only[Act.put,xq1,xq2,xq3])
 refine Zae ?_;have HRD:Hid (Blk wd rb 37 (sgArr ⟨⟨0,0,0,0,0,0⟩,0,0,0,0,0,0,0,0,0,0,0,0,0,⟨#[]⟩,⟨#[]⟩,0⟩)):=zh ((HDD.o.block _ HR3.o.lt).trans HR3.o);refine Zad wd rfl 37 (.tmp 2) (.tmp 39) rfl 0 (sgArr ⟨⟨f0,f1,f2,f3,f4,f5⟩,g0,g1,g2,g3,g4,g5,(IntKind.i64.wrap sz).tmod 8,(IntKind.i64.wrap mq).tmod 4,0,IntKind.i64.wrap (20*IntKind.i64.wrap sl),0,(IntKind.i64.wrap lm).tmod 12,(IntKind.i64.wrap ev).tmod 4,Ru.ruleL k,ownS,IntKind.u64.wrap wh⟩) rfl rfl HRD.o (by show 0+22<=22;omega) Zb6 (by simp[sgArr,Value.oneCell']) ?_;intro w7 hb7 hk7 hz7;simp only[sgArr,putA,xq1,xq2,xq3]at hb7;have HX7:Hid (Blk w7 rb 37 (sgArr ⟨⟨f0,f1,f2,f3,f4,f5⟩,g0,g1,g2,g3,g4,g5,(IntKind.i64.wrap sz).tmod 8,(IntKind.i64.wrap mq).tmod 4,0,IntKind.i64.wrap (20*IntKind.i64.wrap sl),0,(IntKind.i64.wrap lm).tmod 12,(IntKind.i64.wrap ev).tmod 4,Ru.ruleL k,ownS,IntKind.u64.wrap wh⟩)):=zh hb7;have HB7:Hid (Below w.heap.size w w7):=zh ((HB3.o.trans (HDD.o.mono HB3.o.size)).trans (hk7.toBelow (fun i hi=>by rw[hi];exact HRB.o.1) (Nat.le_trans HB3.o.size HDD.o.size)));have HK7:Hid (Kept (fun b=>b=rb) w3 w7):=zh (HBD.o.trans hk7);clear hb7 hk7 hz7 HRD;refine⟨HK7.o,?_⟩
 repeat ((first|(refine Zaf _ (by rfl) (fun W hW=>by (go_simp;try with_reducible rfl)) ?_)|(refine Zac (by rfl) ?_));simp only[Act.put,xq1,xq2,xq3])
 refine Zah ?_;go_wp2_with fail;refine bodyPost_ret (Zc7 (rb:=rb) rfl rfl (Ztd HX7.o)) rfl ?_;have e1:IntKind.i64.wrap sl=sl:=IntWalk.i64_in _ (by omega);have e2:IntKind.i64.wrap (20*sl)=20*sl:=IntWalk.i64_in _ (by omega);have e3:IntKind.i64.wrap lm=lm:=IntWalk.i64_in _ (by omega);have e4:IntKind.i64.wrap ev=ev:=IntWalk.i64_in _ (by omega);refine⟨_,rfl,⟨rfl,?_,rfl,?_,?_,rfl,?_⟩,HB7.o⟩
 ·dsimp only;rw[e1,e2];omega
 ·dsimp only;rw[e3,m3];omega
 ·dsimp only;rw[e4,m4];omega
 ·dsimp only;rw[hk]
end Go.Proofs.YtphmhbcimhlcjaaGreatDoor
namespace Go.Proofs.YtphmhbcimhlcjaaGreatDoor
open Go.Shelf Go.RowKit Go.Maps
open Ru (Fz fzA fzX Nd holdsR RuleV ruleT Says errOf ErrAt TabAt)
theorem Zma (x:Ev)(w:World)(hb:EvBd x) :
  Calls Tryz.prog 57 #[evA x,.int .i64 100] w fun e w'=>∃b:Bool,e = .returned (.bool b)/\(b=false->EvSmall x)/\Below w.heap.size w w':=by
 obtain⟨s0,n0,t0,k0,p0,i0,v0,x0⟩:=x;obtain⟨h0,h1,h2,h3⟩:=hb;dsimp only at h0 h1 h2 h3;have HES:Hid (EvSmall ⟨s0,n0,t0,k0,p0,i0,v0,x0⟩↔(s0.size<=300/\p0.size<=300/\i0.size<=300/\x0.size<=300)):=zh Iff.rfl;unfold evA;dsimp only;obtain⟨w1,hw1⟩:=zG (w.alloc (.cells #[.string s0,.int .i64 n0,.int .i64 t0,.int .i64 k0,.string p0,.string i0,.int .i64 v0,.string x0] 66));have bl:Blk w1 w.heap.size 66 #[.string s0,.int .i64 n0,.int .i64 t0,.int .i64 k0,.string p0,.string i0,.int .i64 v0,.string x0]:=by rw[<-hw1];exact Blk.new _ _ _
 have HB1:=zA hw1;have c0:w1.cell? ⟨w.heap.size,0,none⟩=some (.string s0):=bl.cell 0;have c4:w1.cell? ⟨w.heap.size,4,none⟩=some (.string p0):=bl.cell 4;have c5:w1.cell? ⟨w.heap.size,5,none⟩=some (.string i0):=bl.cell 5;have c7:w1.cell? ⟨w.heap.size,7,none⟩=some (.string x0):=bl.cell 7;clear bl;by_cases q0:(100:Int)<(s0.size:Int)
 ·go_enter Tryz.func57,Tryz.ntmps57;go_wp2_with fail;go_ret
  first|exact⟨true,rfl,fun h=>(by cases h),HB1.o⟩|exact Or.inr ⟨rfl,HB1.o⟩
 have d0:decide ((100:Int)<(s0.size:Int))=false:=decide_eq_false q0;by_cases q1:(100:Int)<(p0.size:Int)
 ·go_enter Tryz.func57,Tryz.ntmps57;go_wp2_with fail;go_ret
  first|exact⟨true,rfl,fun h=>(by cases h),HB1.o⟩|exact Or.inr ⟨rfl,HB1.o⟩
 have d1:decide ((100:Int)<(p0.size:Int))=false:=decide_eq_false q1;by_cases q2:(100:Int)<(i0.size:Int)
 ·go_enter Tryz.func57,Tryz.ntmps57;go_wp2_with fail;go_ret
  first|exact⟨true,rfl,fun h=>(by cases h),HB1.o⟩|exact Or.inr ⟨rfl,HB1.o⟩
 have d2:decide ((100:Int)<(i0.size:Int))=false:=decide_eq_false q2;by_cases q3:(100:Int)<(x0.size:Int)
 ·go_enter Tryz.func57,Tryz.ntmps57;go_wp2_with fail;go_ret
  first|exact⟨true,rfl,fun h=>(by cases h),HB1.o⟩|exact Or.inr ⟨rfl,HB1.o⟩
 have d3:decide ((100:Int)<(x0.size:Int))=false:=decide_eq_false q3;have HE:Hid (EvSmall ⟨s0,n0,t0,k0,p0,i0,v0,x0⟩):=zh (HES.o.2 (by omega));go_enter Tryz.func57,Tryz.ntmps57;go_wp2_with fail;go_ret
 first|exact⟨false,rfl,fun _=>HE.o,HB1.o⟩|exact Or.inl ⟨rfl,HE.o,HB1.o⟩
theorem Zjp (w:World)(B:Nat)(A:Option Addr)(l:List Ev)(n c:Nat)(hn:l.length=n)(hl:EvsAt w B A l)(hB:B<=w.heap.size)(hb:n<=140737488355328)(hbd:∀e∈l,EvBd e) :
  Calls Tryz.prog 16 #[.slice A n c,.int .i64 100] w fun e w'=>∃b:Bool,e = .returned (.bool b)/\(b=false->∀e∈l,EvSmall e)/\Below w.heap.size w w':=by
 have HN:=zh hn;have HL:=zh hl;have HD:=zh hbd;clear hn hl hbd;go_enter Tryz.func16,Tryz.ntmps16;go_wp2_with fail;go_loopw [5] (fun i wr=>∃k:Nat,k<=n/\i = .int .i64 k/\Hid (∀j e,j<k->l[j]? = some e->EvSmall e)/\Hid (Below w.heap.size w wr)) (fun i _=>n - (intOf i).toNat)
 case atStart=>exact⟨0,Nat.zero_le _,rfl,zh (fun j e hj=>by omega),zh (Below.refl _ _)⟩
 case round=>
  obtain⟨k,hk,rfl,hok,hbw⟩:=hrel;by_cases hlt:k<n
  ·obtain⟨x,hx⟩:∃x,l[k]? = some x:=⟨l[k]'(by rw[HN.o];exact hlt),List.getElem?_eq_getElem _⟩
   obtain⟨g,o,rfl,hgB,hcl⟩:=HL.o.at (by rw[HN.o];omega);obtain⟨e0,e1,e2,e3,e4,e5,e6,e7⟩:EvAt wr g (o+k*8) x:=(hcl k x hx).keep (fun j=>hbw.o.cell (p:=⟨g,j,none⟩) (Nat.lt_of_lt_of_le hgB hB));have HBG:=zh (Zma x wr (HD.o x (List.mem_of_getElem? hx)));have HX:=zh hx;have hk8:(k:Int)<(n:Int):=by omega
   have hk9:(0:Int)<=(k:Int):=by omega
   unfold evA at HBG;clear hcl hx;go_wp2_with fail;refine HBG.o.mono ?_;rintro e w2 ⟨b,rfl,hbs,hb2⟩;have HB2:=zT hbw hb2;clear HBG hb2;cases b
   ·have HSM:=zh (hbs rfl);clear hbs;go_wp2_with fail;go_roundw
    case rel=>
     refine⟨k+1,by omega,by go_num,zh (fun j e hj he=>?_),HB2⟩;by_cases h:j=k
     ·subst h;rw[HX.o]at he;cases he;exact HSM.o
     ·exact hok.o j e (by omega) he
    case measure=>simp[intOf];omega
   ·clear hbs;go_wp2_with fail;go_ret;exact⟨true,rfl,fun h=>(by cases h),HB2.o⟩
  ·go_wp2_with fail;go_ret;refine⟨false,rfl,fun _ e he=>?_,hbw.o⟩;obtain⟨j,hj⟩:=List.mem_iff_getElem?.1 he;have:=(List.getElem?_eq_some_iff.1 hj).1;rw[HN.o]at this;exact hok.o j e (by omega) hj
def plArr (A:Option Addr)(n cp:Nat)(x:Sm)(p i:ByteArray)(now:Int):Array Value:=#[.slice A n cp,.int .i64 x.cfg.half,.int .i64 x.cfg.width,.int .i64 x.cfg.gap,.int .i64 x.cfg.span,.int .i64 x.cfg.floor,.int .i64 x.cfg.crowd,.int .i64 x.g0,.int .i64 x.g1,.int .i64 x.g2,.int .i64 x.g3,.int .i64 x.g4,.int .i64 x.g5,.int .u8 x.sz,.int .u8 x.ev,.int .u8 x.lm,.int .u8 x.sl,.int .u8 x.mq,.int .u8 x.wh,.string p,.string i,.int .i64 now]
def plA (A:Option Addr)(n cp:Nat)(x:Sm)(p i:ByteArray)(now:Int):Value:=.agg (plArr A n cp x p i now)
structure FewOk (l:List Ev) (x:Sm) (p i:ByteArray):Prop where
 cfg:CfgOk x.cfg
 crowd:x.cfg.crowd<=12
 len:l.length<=20
 ok:∀e∈l,EvOk e
 p:p.size<=60
 i:i.size<=60
theorem few41_any (A:Option Addr)(n cp:Nat)(l:List Ev)(x:Sm)(p i:ByteArray)(now:Int)(w:World)(hl:EvArg w A n cp l)(hp:p.size<=maxLen)(hi:i.size<=maxLen):Calls Tryz.prog 5 #[plA A n cp x p i now] w fun e w'=>∃b,e = .returned (.bool b)/\(b=true->FewOk l x p i)/\Below w.heap.size w w':=by
 obtain⟨w1,hw1⟩:=zG (w.alloc (.cells (plArr A n cp x p i now) 30));have HX1:Hid (Blk w1 w.heap.size 30 (plArr A n cp x p i now)):=zB hw1;have HB1:=zA hw1;have HCF:=zh (Zqp x.cfg w1);obtain⟨hn,hev,hbig,hnil,hbd⟩:=hl
 have HSM:Hid (∀W,Below w1.heap.size w1 W->Calls Tryz.prog 16 #[.slice A n cp,.int .i64 100] W fun e w'=>∃b:Bool,e = .returned (.bool b)/\(b=false->∀e∈l,EvSmall e)/\Below W.heap.size W w'):=zh (fun W hb=>by
  have hb2:=HB1.o.trans (hb.mono HB1.o.size);exact Zjp W w.heap.size A l n cp hn (hev.below hb2) hb2.size hbig hbd)
 have HAL:Hid ((∀e∈l,EvSmall e)->n<=20->∀W,Below w1.heap.size w1 W->Calls Tryz.prog 20 #[.slice A n cp] W fun e w'=>∃b:Bool,e = .returned (.bool b)/\(b=true->∀e∈l,mayB e=true)/\Below W.heap.size W w'):=zh (fun hs hn2 W hb=>by
  have hb2:=HB1.o.trans (hb.mono HB1.o.size);exact Zqq W w.heap.size A l n cp hn (hev.below hb2) hb2.size (by omega) hs)
 have HSC:Hid (∀W,Below w1.heap.size w1 W->(World.cell? W ⟨w.heap.size,0,none⟩=some (.slice A n cp)/\World.cell? W ⟨w.heap.size,1,none⟩=some (.int .i64 x.cfg.half)/\World.cell? W ⟨w.heap.size,2,none⟩=some (.int .i64 x.cfg.width)/\World.cell? W ⟨w.heap.size,3,none⟩=some (.int .i64 x.cfg.gap)/\World.cell? W ⟨w.heap.size,4,none⟩=some (.int .i64 x.cfg.span)/\World.cell? W ⟨w.heap.size,5,none⟩=some (.int .i64 x.cfg.floor)/\World.cell? W ⟨w.heap.size,6,none⟩=some (.int .i64 x.cfg.crowd)/\World.cell? W ⟨w.heap.size,19,none⟩=some (.string p)/\World.cell? W ⟨w.heap.size,20,none⟩=some (.string i))):=zh (fun W hb=>by
  have hx:Blk W w.heap.size 30 (plArr A n cp x p i now):=(hb.block _ HX1.o.lt).trans HX1.o;exact⟨hx.cell 0,hx.cell 1,hx.cell 2,hx.cell 3,hx.cell 4,hx.cell 5,hx.cell 6,hx.cell 19,hx.cell 20⟩)
 obtain⟨a0,a1,a2,a3,a4,a5,a6,a19,a20⟩:=HSC.o w1 (Below.refl _ _);have HLN:=zh hn;unfold cfgA at HCF;unfold plA;unfold plArr at hw1 ⊢;clear HX1 hn hev hbig hnil hbd;go_enter Tryz.func5,Tryz.ntmps5;go_wp2_with fail;refine HCF.o.mono ?_;rintro e w2 ⟨b,rfl,hbc,hb2⟩;have HB2:Hid (Below w1.heap.size w1 w2):=zh hb2;obtain⟨a0,a1,a2,a3,a4,a5,a6,a19,a20⟩:=HSC.o w2 hb2;clear HCF hb2;cases b with
 | false=>
  go_wp2_with fail;go_ret;exact⟨false,rfl,fun h=>(by cases h),HB1.o.trans (HB2.o.mono HB1.o.size)⟩
 | true=>
 have HCO:=zh (hbc rfl);clear hbc;by_cases q1:x.cfg.crowd<=12
 rotate_left
 ·have d1:decide (x.cfg.crowd<=12)=false:=decide_eq_false q1;go_wp2_with fail;go_ret;exact⟨false,rfl,fun h=>(by cases h),HB1.o.trans (HB2.o.mono HB1.o.size)⟩
 have d1:decide (x.cfg.crowd<=12)=true:=decide_eq_true q1;have HQ1:=zh q1;clear q1;by_cases q2:(n:Int)<=20
 rotate_left
 ·have d2:decide ((n:Int)<=20)=false:=decide_eq_false q2;go_wp2_with fail;go_ret;exact⟨false,rfl,fun h=>(by cases h),HB1.o.trans (HB2.o.mono HB1.o.size)⟩
 have d2:decide ((n:Int)<=20)=true:=decide_eq_true q2;have HQ2:Hid (n<=20):=zh (by omega);clear q2;have HC:=zh (HSM.o w2 HB2.o);go_wp2_with fail;refine HC.o.mono ?_;rintro e w3 ⟨b,rfl,hbs,hb3⟩;have HB3:=zT HB2 hb3;obtain⟨a0,a1,a2,a3,a4,a5,a6,a19,a20⟩:=HSC.o w3 HB3.o;clear HC hb3;cases b with
 | true=>
  go_wp2_with fail;go_ret;exact⟨false,rfl,fun h=>(by cases h),HB1.o.trans (HB3.o.mono HB1.o.size)⟩
 | false=>
 have HES:=zh (hbs rfl);clear hbs;have HC:=zh (HAL.o HES.o HQ2.o w3 HB3.o);go_wp2_with fail;refine HC.o.mono ?_;rintro e w4 ⟨b,rfl,hbs,hb4⟩;have HB4:=zT HB3 hb4;obtain⟨a0,a1,a2,a3,a4,a5,a6,a19,a20⟩:=HSC.o w4 HB4.o;clear HC hb4;cases b with
 | false=>
  go_wp2_with fail;go_ret;exact⟨false,rfl,fun h=>(by cases h),HB1.o.trans (HB4.o.mono HB1.o.size)⟩
 | true=>
 have HMY:=zh (hbs rfl);clear hbs;by_cases q3:(p.size:Int)<=60
 rotate_left
 ·have d3:decide ((p.size:Int)<=60)=false:=decide_eq_false q3;go_wp2_with fail;go_ret;exact⟨false,rfl,fun h=>(by cases h),HB1.o.trans (HB4.o.mono HB1.o.size)⟩
 have d3:decide ((p.size:Int)<=60)=true:=decide_eq_true q3;have HQ3:Hid (p.size<=60):=zh (by omega);clear q3;by_cases q4:(i.size:Int)<=60
 rotate_left
 ·have d4:decide ((i.size:Int)<=60)=false:=decide_eq_false q4;go_wp2_with fail;go_ret;exact⟨false,rfl,fun h=>(by cases h),HB1.o.trans (HB4.o.mono HB1.o.size)⟩
 have d4:decide ((i.size:Int)<=60)=true:=decide_eq_true q4;have HQ4:Hid (i.size<=60):=zh (by omega);clear q4;go_wp2_with fail;go_ret;exact⟨true,rfl,fun _=>⟨HCO.o,HQ1.o,by rw[HLN.o];exact HQ2.o,fun e he=>⟨HMY.o e he,HES.o e he⟩,HQ3.o,HQ4.o⟩,HB1.o.trans (HB4.o.mono HB1.o.size)⟩
theorem told41_any (A:Option Addr)(n cp:Nat)(x:Sm)(p i:ByteArray)(now:Int)(w:World)(hp:p.size<=60)(hi:i.size<=60):Calls Tryz.prog 10 #[plA A n cp x p i now] w fun e w'=>e = .returned (.bool (toldB p i now))/\Below w.heap.size w w':=by
 obtain⟨w1,hw1⟩:=zG (w.alloc (.cells (plArr A n cp x p i now) 30));have HX1:Hid (Blk w1 w.heap.size 30 (plArr A n cp x p i now)):=zB hw1;have HB1:=zA hw1;have a19:w1.cell? ⟨w.heap.size,19,none⟩=some (.string p):=HX1.o.cell 19;have a20:w1.cell? ⟨w.heap.size,20,none⟩=some (.string i):=HX1.o.cell 20;have a21:w1.cell? ⟨w.heap.size,21,none⟩=some (.int .i64 now):=HX1.o.cell 21;have HN1:=zh (rname_any p w1 (by unfold maxLen;omega));have HN2:=zh (rname_any i w1 (by unfold maxLen;omega));have HT:Hid (toldB p i now=(nameB p&&(nameB i&&(decide (0<=now)&&decide (now<=1099511627776))))):=zh rfl;unfold plA;unfold plArr at hw1 ⊢;clear HX1 hp hi;go_enter Tryz.func10,Tryz.ntmps10;go_wp2_with fail;refine HN1.o.mono ?_;rintro e w2 ⟨rfl,rfl⟩;cases hnp:nameB p with
 | false=>
  go_wp2_with fail;go_ret;exact⟨by rw[HT.o,hnp];rfl,HB1.o⟩
 | true=>
 go_wp2_with fail;refine HN2.o.mono ?_;rintro e w2 ⟨rfl,rfl⟩;cases hni:nameB i with
 | false=>
  go_wp2_with fail;go_ret;exact⟨by rw[HT.o,hnp,hni];rfl,HB1.o⟩
 | true=>
 by_cases q1:0<=now
 rotate_left
 ·have d1:decide (0<=now)=false:=decide_eq_false q1;go_wp2_with fail;go_ret;exact⟨by rw[HT.o,hnp,hni,d1];rfl,HB1.o⟩
 have d1:decide (0<=now)=true:=decide_eq_true q1;go_wp2_with fail;go_ret;exact⟨by rw[HT.o,hnp,hni,d1];rfl,HB1.o⟩
end Go.Proofs.YtphmhbcimhlcjaaGreatDoor
namespace Go.Proofs.YtphmhbcimhlcjaaGreatDoor
open Ru (Fz fzA fzX Nd holdsR)
def pS:ByteArray:=⟨#[112]⟩
def aS:ByteArray:=⟨#[97]⟩
def ev1:Ev:=⟨zzS,1,5,11,⟨#[]⟩,aS,0,noneT⟩
def ev2:Ev:=⟨zzS,2,5,12,⟨#[]⟩,aS,1,⟨#[]⟩⟩
theorem awk0:whyW [] pS aS 5 0 1 (some none)=1:=by kernel_rfl
theorem awk1:whyW [ev1] pS aS 5 0 1 (some none)=2:=by kernel_rfl
theorem awk2:whyW [ev1,ev2] pS aS 5 0 1 (some none)=0:=by kernel_rfl
theorem awc1:cureP [] 1 pS aS 5 0 = [ev1]:=by kernel_rfl
theorem awc2:cureP [ev1] 2 pS aS 5 0 = [ev2]:=by kernel_rfl
theorem awm1:mayB ev1=true:=by kernel_rfl
theorem Zc9:Closed []:=⟨List.Pairwise.nil,List.Pairwise.nil,fun e h=>by cases h⟩
theorem Zgb:Closed [ev1]:=⟨List.pairwise_singleton _ _,List.pairwise_singleton _ _,fun e h=>Or.inr (fun ⟨f,hf,hk,_⟩=>by
 obtain rfl:=List.mem_singleton.1 hf;exact absurd hk (by decide))⟩
theorem top1:OnTop [] [ev1]:=by
 have:=Zb0 (y:=1) (p:=pS) (i:=aS) (now:=5) (crowd:=0) Zc9 (fun e h=>by cases h)
 rwa [awc1]at this
theorem top2:OnTop [ev1] [ev2]:=by
 have:=Zb0 (y:=2) (p:=pS) (i:=aS) (now:=5) (crowd:=0) Zgb (fun e h=>by rw[List.mem_singleton.1 h];exact awm1)
 rwa [awc2]at this
theorem Zio:SortedE [ev1,ev2]:=List.pairwise_cons.2 ⟨fun e h=>by rw[List.mem_singleton.1 h];decide,List.pairwise_singleton _ _⟩
theorem an1 {fm:Ev->ByteArray}{E:List Ev}(h:AnewIs fm ([]++[ev1]) E):E = [ev1]:=Za3 h.sorted (List.pairwise_singleton _ _) (fun e=>by rw[Zbq Zc9 top1 h];simp)
theorem an2 {fm:Ev->ByteArray}{E:List Ev}(h:AnewIs fm ([ev1]++[ev2]) E):E = [ev1,ev2]:=Za3 h.sorted Zio (fun e=>by rw[Zbq Zgb top2 h];simp)
theorem top12:OnTop [] ([ev1]++[ev2]):=top1.app (E:=[ev1]) (fun e=>by simp) top2
theorem an12 {fm:Ev->ByteArray}{E:List Ev}(h:AnewIs fm ([]++([ev1]++[ev2])) E):E = [ev1,ev2]:=Za3 h.sorted Zio (fun e=>by rw[Zbq Zc9 top12 h];simp)
theorem Zjq {fm:Ev->ByteArray}{l:List (Nat×List Ev)}{E':List Ev}(h:ChainP fm pS aS 5 0 1 (some none) [] l E'):l = [(1,[ev1]),(2,[ev2])]:=by
 cases h with
 | stop h=>rw[awk0]at h;cases h
 | none h h0 hc=>
  rw[awk0]at h;subst h;rw[awc1]at hc;cases hc
 | more h h0 hc hne hE ht=>
  rw[awk0]at h;subst h;rw[awc1]at hc;subst hc;obtain rfl:=an1 hE;cases ht with
  | stop h=>rw[awk1]at h;cases h
  | none h h0 hc=>
   rw[awk1]at h;subst h;rw[awc2]at hc;cases hc
  | more h h0 hc hne hE ht=>
   rw[awk1]at h;subst h;rw[awc2]at hc;subst hc;obtain rfl:=an2 hE;cases ht with
   | stop h=>rfl
   | none h h0 hc=>rw[awk2]at h;exact absurd h.symm h0
   | more h h0 hc hne hE ht=>rw[awk2]at h;exact absurd h.symm h0
theorem Zmb {fm:Ev->ByteArray}{E:List Ev}(h:AnewIs fm ([]++evsC [(1,[ev1]),(2,[ev2])]) E):whyW E pS aS 5 0 1 (some none)=0:=by
 obtain rfl:=an12 h;exact awk2
end Go.Proofs.YtphmhbcimhlcjaaGreatDoor
