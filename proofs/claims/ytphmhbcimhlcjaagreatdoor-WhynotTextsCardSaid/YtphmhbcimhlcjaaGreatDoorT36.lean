/- A part of the joined base. -/
import Derived.Test.YtphmhbcimhlcjaaGreatDoorT35
import Derived.KernelRfl
set_option linter.unusedVariables false
set_option maxHeartbeats 8000000
set_option maxRecDepth 100000
namespace Go.Proofs.YtphmhbcimhlcjaaGreatDoor
open Go.Shelf Go.RowKit Go.Maps
open Ru (Fz fzA fzX Nd holdsR RuleV ruleT Says errOf ErrAt TabAt)
theorem Zin {l:List (Nat×List Ev)}{j:Nat}{x:Nat×List Ev}(h:l[j]? = some x):evsC (l.take (j+1))=evsC (l.take j)++x.2:=by
 rw[Zbd h];unfold evsC;rw[List.flatMap_append];simp
theorem Zra {l:List (Nat×List Ev)}{j k:Nat}(h:∀x∈l,x.2.length<=k):(evsC (l.take j)).length<=j*k:=by
 induction j with
 | zero=>simp[evsC]
 | succ j ih=>
  cases hx:l[j]? with
  | none=>
   have hl:=List.getElem?_eq_none_iff.1 hx;rw[List.take_of_length_le (by omega)]at ih ⊢;rw[Nat.add_mul];omega
  | some x=>
   rw[Zin hx,List.length_append];have:=h x (List.mem_of_getElem? hx);rw[Nat.add_mul];omega
theorem cures_yes {w:World}{wb ct cr:Nat}{c:Cfg}{E:List Ev}(h:WrAt w wb ct cr c E)(hE:WnE 200 E)(hc:CfgOk c)(hcr:c.crowd<=12)(s:Sg)(r:Option Nd)(hs:SgOk s r)(p i:ByteArray)(now:Int)(ht:toldB p i now=true)(hg:Lb2 w)
  (l:List (Nat×List Ev)) (us:List (Nat×Value)) (A:Option Addr) (n cp:Nat) (hn:l.length=n) (hn6:n<=6) (hrow:RowIn w w.heap.size 2 A n (us.flatMap chC)) (hins:ChsIn w us l) (hok:∀e∈evsC l,EvOk e) (hl12:∀x∈l,x.2.length<=12) :
  Calls Tryz.prog 21 #[.pointer (some ⟨wb,0,none⟩),sgA s,.string p,.string i,.int .i64 now,.slice A n cp] w fun e w'=>∃E3,AnewIs fmtB (E++evsC l) E3/\e = .returned (.bool (decide (whyW E3 p i now c.crowd c.span (some r)=0)))/\Below w.heap.size w w':=by
 obtain⟨hp,hi,hn1,hn2⟩:=Zek ht;have hpz:=Zay hp;have hiz:=Zay hi;obtain⟨w1,hw1⟩:=zG (w.alloc (.cells (sgArr s) 37));have HX1:Hid (Blk w1 w.heap.size 37 (sgArr s)):=zB hw1;have HB1:=zA hw1;have HAS:=zh (Zor s r hs p i now ht w1 (hg.keep HB1.o));have HW:=zh (h.below HB1.o);have HLB:Hid (∀W,Below w1.heap.size w1 W->Lb2 W):=zh (fun W hb=>(hg.keep HB1.o).keep hb);have HWN:=zh hE;have HCF:Hid (CfgOk c/\c.crowd<=12):=zh ⟨hc,hcr⟩;have HNM:Hid (nameB p=true/\nameB i=true/\0<=now/\now<=1099511627776/\p.size<=24/\i.size<=24):=zh ⟨hp,hi,hn1,hn2,hpz,hiz⟩;have HTL:=zh (And.intro hrow (And.intro hins hn));have HOK:=zh hok;have HLL:Hid (n<=6/\(∀x∈l,x.2.length<=12)):=zh ⟨hn6,hl12⟩;have hsz:(sgArr s).size=22:=rfl;obtain⟨sa,hsa⟩:=zG (sgArr s);unfold sgA at HAS ⊢;rw[hsa]at hw1 HAS HX1 hsz ⊢;have HSI:Hid ((Tryz.prog.info? 37).map (·.size)=some sa.size):=zh (by rw[hsz];exact Zb6);clear h hE hc hcr hs hg hrow hins hn hok hn6 hl12 ht hp hi hn1 hn2 hpz hiz hsa hsz;go_enter Tryz.func21,Tryz.ntmps21
 go_wp2_with (first
  | (refine wpList_load_row rfl 37 _ rfl w.heap.size rfl 37 sa (0,0) _ HX1.o Tryz.underlying37 rfl HSI.o ?_)
  | fail)
 refine HAS.o.mono ?_;rintro e w2 ⟨qq,rfl,HR2,hb2⟩;have HR2:=zh HR2;have HB2:Hid (Below w1.heap.size w1 w2):=zh hb2;clear hb2 HAS hw1 HX1 HSI;have HRZ:Hid (Below w1.heap.size w1 w2):=HB2
 go_wp2_with (first
  | (refine Zad _ rfl 81 (.tmp 13) (.tmp 26) rfl 0 (qArr qq p i now) rfl rfl (Blk.new _ _ _) (by show 0+4<=4;omega) Zc0 (by simp[qArr,Value.oneCell']) ?_;intro w3 hb3 hk3 hs3)
  | fail)
 (try simp only[Exit.inBlock,Exit.then])
 simp only[qArr,putA,xq1,xq2,xq3]at hb3;have hx3:Blk w3 w2.heap.size 81 (qArr qq p i now):=hb3;obtain⟨rb,hrb⟩:=zG (w2.heap.size);have HZ3:Hid (w1.heap.size<=w2.heap.size/\w2.heap.size<=w3.heap.size/\rb=w2.heap.size):=zh ⟨HB2.o.size,by have:=hk3.size;simp at this;omega,hrb.symm⟩;have HB3:Hid (Below w2.heap.size w2 w3):=zh (((Below.refl _ _).alloc (zr _) _).trans (hk3.toBelow (fun i hi=>by rw[hi];exact zr _) (by simp)));have HX3:Hid (Blk w3 rb 81 (qArr qq p i now)):=zh (by rw[<-hrb];exact hx3);clear hb3 hk3 hs3 hx3;try rw[hrb]
 clear hrb;have HB13:=zT HB2 HB3.o;have HR3:=zh (HR2.o.below HB3.o);have HW3:=zh (HW.o.below HB13.o);clear HW HR2 HB2 HB3;obtain⟨qv,hqv⟩:=zG (qArr qq p i now);have HQS:Hid ((Tryz.prog.info? 81).map (·.size)=some qv.size):=zh (by rw[Zc0,<-hqv];rfl)
 have HWHY:Hid (∀W wb' ct' cr' E',Below w3.heap.size w3 W->WrAt W wb' ct' cr' c E'->WnE 400 E'->Calls Tryz.prog 27 #[.agg qv,.pointer (some ⟨wb',0,none⟩)] W fun e w'=>e = .returned (.int .i64 (whyW E' p i now c.crowd c.span (some r):Nat))/\Below W.heap.size W w'):=zh (fun W wb' ct' cr' E' hb hW hE=>by
  have hb1:=HB13.o.trans (hb.mono HB13.o.size);obtain⟨hp,hi,hn1,hn2,hpz,hiz⟩:=HNM.o;rw[<-hqv];exact why_any hW hE.ok (by have:=hE.few;omega) (HR3.o.below hb) (HLB.o W hb1).g p i now (by omega) (by omega) (by unfold InR;omega))
 rw[hqv]at HX3;have HQV:=zh hqv;clear hqv HR3;have HCFG:Hid (∀W,Below w3.heap.size w3 W->Calls Tryz.prog 29 #[.pointer (some ⟨wb,0,none⟩)] W fun e w'=>e = .returned (cfgA c)/\Below W.heap.size W w'):=zh (fun W hb=>Zc8 (HW3.o.below hb));obtain⟨ne,hne⟩:=zG (E.length);have HNL:Hid (E.length=ne/\ne<=200):=zh ⟨hne,by have:=HWN.o.few;omega⟩;have HC:=zh (Zch HW3.o (by have:=HWN.o.few;omega));rw[hne]at HC;clear hne;go_wp2_with fail;refine HC.o.mono ?_;rintro e w4 ⟨A4,c4,rfl,ho4,hb4⟩;have HB4:Hid (Below w3.heap.size w3 w4):=zh hb4;have HO4:=zh ho4;clear HC ho4 hb4;have HIN3:Hid (RowIn w3 w.heap.size 2 A n (us.flatMap chC)/\ChsIn w3 us l):=zh ⟨HTL.o.1.below (HB1.o.trans (HB13.o.mono HB1.o.size)),HTL.o.2.1.below (HB1.o.trans (HB13.o.mono HB1.o.size))⟩;have HWZ:Hid (w.heap.size<=w3.heap.size):=zh (HB1.o.trans (HB13.o.mono HB1.o.size)).size;go_wp2_with fail;go_loopw [15,34] (fun ev iv wr=>∃(j m:Nat) (A':Option Addr) (c':Nat),ev = .slice A' m c'/\iv = .int .i64 j/\j<=n/\Hid (wr.ownsRow w3.heap.size 66 8 (.slice A' m c') m ((E++evsC (l.take j)).flatMap evC))/\Hid ((E++evsC (l.take j)).length=m)/\Hid (Below w3.heap.size w3 wr)) (fun _ iv _=>n - (intOf iv).toNat)
 case atStart=>exact⟨0,ne,A4,c4,rfl,rfl,Nat.zero_le _,zh (by rw[List.take_zero,show evsC [] = [] from rfl,List.append_nil];exact HO4.o),zh (by rw[List.take_zero,show evsC [] = [] from rfl,List.append_nil];exact HNL.o.1),HB4⟩
 case round=>
  obtain⟨j,m,A',c',rfl,rfl,hj,HOW,HLN,HBR⟩:=hrel
  have HML:Hid (m<=300):=zh (by
   rw[<-HLN.o,List.length_append];have h1:=Zra (j:=j) HLL.o.2;have h2:=HNL.o;have h3:=HLL.o.1;omega)
  by_cases hlt:j<n
  ·obtain⟨x,hx⟩:∃x,l[j]? = some x:=⟨l[j]'(by rw[HTL.o.2.2];exact hlt),List.getElem?_eq_getElem _⟩
   obtain⟨u,hu⟩:∃u,us[j]? = some u:=⟨us[j]'(by rw[HTL.o.2.1.1,HTL.o.2.2];exact hlt),List.getElem?_eq_getElem _⟩
   obtain⟨b,off,rfl,hb,hcl⟩:=HIN3.o.1.at (by omega);obtain⟨hu1,A5,c5,hu2,he5,hnil⟩:=HIN3.o.2.2 j u x hu hx;obtain⟨u1,u2⟩:=u;dsimp only at hu1 hu2;subst hu2;obtain⟨k5,hk5⟩:=zG (x.2.length);have HK5:Hid (x.2.length=k5/\k5<=12):=zh ⟨hk5,by rw[<-hk5];exact HLL.o.2 x (List.mem_of_getElem? hx)⟩;rw[hk5]at hu;have HE5:Hid (RowIn w3 w3.heap.size 8 A5 k5 (x.2.flatMap evC)/\(A5=none->c5=0)):=zh ⟨by have h:=he5;unfold EvsAt at h;rwa [hk5]at h,hnil⟩;have c0:World.cell? wr ⟨b,off+j*2,none⟩=some (.int .i64 (u1:Int)):=(HBR.o.cell (p:=⟨b,off+j*2,none⟩) (by have:=HWZ.o;show b<_;omega)).trans (hcl (j*2) _ (Zbi chC 2 Zos us j 0 _ hu (by omega)));have c1:World.cell? wr ⟨b,off+j*2+1,none⟩=some (.slice A5 k5 c5):=(HBR.o.cell (p:=⟨b,off+j*2+1,none⟩) (by have:=HWZ.o;show b<_;omega)).trans (hcl (j*2+1) _ (Zbi chC 2 Zos us j 1 _ hu (by omega)));have HEV:=zh (Zin hx);have hj8:(j:Int)<(n:Int):=by omega
   have hj9:(0:Int)<=(j:Int):=by omega
   clear hcl hu he5 hnil hk5 hx hu1 hb
   go_upto_region 8 with (first
    | (refine Zad _ rfl 50 (.tmp 17) (.tmp 37) rfl 0 #[.int .i64 (u1:Int),.slice A5 k5 c5] rfl rfl (Blk.new _ _ _) (by show 0+2<=2;omega) Zjn (by simp[Value.oneCell']) ?_;intro w6 hb6 hk6 hs6)
    | fail)
   (try simp only[Exit.inBlock,Exit.then])
   simp only[putA,xq1,xq2,xq3]at hb6;have HB6:Hid (Below wr.heap.size wr w6):=zh (((Below.refl _ _).alloc (zr _) _).trans (hk6.toBelow (fun i hi=>by rw[hi];exact zr _) (by simp)));have HC6:Hid (Blk w6 wr.heap.size 50 #[.int .i64 (u1:Int),.slice A5 k5 c5]):=zh hb6;obtain⟨cb,hcb⟩:=zG (wr.heap.size);rw[hcb]at HC6;clear hb6 hk6 hs6 c0 c1;try rw[hcb]
   clear hcb;have x1:w6.cell? ⟨cb,1,none⟩=some (.slice A5 k5 c5):=HC6.o.cell 1;have HBR6:=zT HBR HB6.o;have HO6:=zh (Ru.Za9 HOW.o HB6.o);have HR6:=zh (HE5.o.1.below HBR6.o);obtain⟨i1,hi1,hy1,hy2,hy3⟩:=info_parts Zdd;have hn6:=HLL.o.1
   go_wp2_with (first
    | (at_builtin;refine Zaa _ rfl _ _ 22 rfl w3.heap.size 66 i1 _ 8 96 Tryz.underlying22 hi1 hy1 hy2 hy3 rfl (by omega) (.slice A' m c') m _ rfl HO6.o w3.heap.size A5 k5 c5 (x.2.flatMap evC) rfl HR6.o HE5.o.2 (Zb1 x.2) (by have:=HML.o;have:=HK5.o;unfold maxLen;omega) (by have:=HML.o;have:=HK5.o;omega) HBR6.o.size ?_;intro v9 w9 ho9 hg9 hv9)
    | fail)
   obtain⟨A9,c9,rfl⟩:=Zbh ho9;rw[<-List.flatMap_append,List.append_assoc,<-HEV.o]at ho9;have HO9:=zh ho9;have HB9:Hid (Below w3.heap.size w3 w9):=zh (HBR6.o.grown hg9 HBR6.o.size (fun j hj=>(Zd1 HO6.o hj).1));clear ho9 hg9 hv9 hi1 hy1 hy2 hy3 x1;go_wp2_with fail;go_roundw
   case rel=>exact⟨j+1,m+k5,A9,c9,rfl,by go_num,by omega,HO9,zh (by rw[HEV.o,<-List.append_assoc,List.length_append,HLN.o,HK5.o.1]),HB9⟩
   case measure=>simp[intOf];omega
  ·obtain rfl:j=n:=by omega
   have hjn:¬(j:Int)<(j:Int):=by omega
   have HALL:Hid (l.take j=l):=zh (by rw[<-HTL.o.2.2,List.take_length]);rw[HALL.o]at HOW HLN;have HC:=zh (HCFG.o wr HBR.o);unfold cfgA at HC;clear hlt;go_wp2_with fail;refine HC.o.mono ?_;rintro e w5 ⟨rfl,hb5⟩;have HB5:=zT HBR hb5;have HO5:=zh (Ru.Za9 HOW.o hb5);have hlb:=HLB.o w5 (HB13.o.trans (HB5.o.mono HB13.o.size))
   have HC:=zh (wof_any c w5 w5.heap.size A' (E++evsC l) m c' HCF.o.1 HLN.o (by unfold EvsAt;rw[HLN.o];exact RowIn.of_own HO5.o) (zr _) (by have:=HML.o;omega) (fun e he=>by
    rcases List.mem_append.1 he with h|h
    ·exact HWN.o.ok e h
    ·exact HOK.o e h) hlb.g hlb.k hlb.t)
   unfold cfgA at HC;clear hb5 hlb;go_wp2_with fail;refine HC.o.mono ?_;rintro e w6 ⟨wb2,base2,E2,rfl,han,hwa,hbs,hb6⟩;obtain⟨ct2,cr2,hw2⟩:=hwa.read;have HAN:=zh han;have HB6:=zT HB5 hb6;have HXR:Hid (Blk w6 rb 81 qv):=zh ((HB6.o.block _ HX3.o.lt).trans HX3.o)
   have HC:=zh (HWHY.o w6 wb2 ct2 cr2 E2 HB6.o hw2 ⟨han.closed,fun e he=>(by
    rcases List.mem_append.1 (han.sub he) with h|h
    ·exact HWN.o.ok e h
    ·exact HOK.o e h),by have:=han.few;have:=HLN.o;have:=HML.o;omega⟩)
   clear hwa han hbs hb6 hw2;rw[<-HQV.o]at HXR HC;have x0:w6.cell? ⟨rb,0,none⟩=some (.pointer qq):=HXR.o.cell 0;have x1:w6.cell? ⟨rb,1,none⟩=some (.string p):=HXR.o.cell 1;have x2:w6.cell? ⟨rb,2,none⟩=some (.string i):=HXR.o.cell 2;have x3:w6.cell? ⟨rb,3,none⟩=some (.int .i64 now):=HXR.o.cell 3;unfold qArr at HC;obtain⟨y,hy⟩:=zG (whyW E2 p i now c.crowd c.span (some r));rw[hy]at HC;have HY:=zh hy;clear hy;go_wp2_with fail;refine HC.o.mono ?_;rintro e w7 ⟨rfl,hb7⟩;have HB7:Hid (Below w.heap.size w w7):=zh (HB1.o.trans ((HB13.o.trans ((HB6.o.trans (hb7.mono HB6.o.size)).mono HB13.o.size)).mono HB1.o.size));clear hb7;go_wp2_with fail;go_ret;refine⟨E2,HAN.o,?_,HB7.o⟩;rw[HY.o];by_cases h0:y=0
   ·subst h0;rfl
   ·have d0:((y:Int) == 0)=false:=by rw[beq_eq_false_iff_ne];omega
    show Ending.returned (.bool ((y:Int) == 0))=_;rw[d0,decide_eq_false h0]
end Go.Proofs.YtphmhbcimhlcjaaGreatDoor
namespace Go.Proofs.YtphmhbcimhlcjaaGreatDoor.Ru
open Go.RowKit Go.Maps Go.Shelf
def rl0:ByteArray:=⟨#[]⟩
theorem says0:Says rl0 (some none) 0:=Says.empty (by decide) (by rw[Zez];decide)
end Go.Proofs.YtphmhbcimhlcjaaGreatDoor.Ru
namespace Go.Proofs.YtphmhbcimhlcjaaGreatDoor
open Go.Shelf Go.RowKit Go.Maps
open Ru (Fz fzA fzX Nd holdsR RuleV ruleT Says errOf ErrAt TabAt)
def ownS:ByteArray:=⟨#[111,119,110]⟩
end Go.Proofs.YtphmhbcimhlcjaaGreatDoor
namespace Go.Proofs.YtphmhbcimhlcjaaGreatDoor
open Go.Shelf Go.RowKit Go.Maps
open Ru (Fz fzA fzX Nd holdsR RuleV ruleT Says errOf ErrAt TabAt)
theorem Zma (x:Ev)(w:World)(hb:EvBd x) :
  Calls Tryz.prog 57 #[evA x,.int .i64 100] w fun e w'=>∃b:Bool,e = .returned (.bool b)/\(b=false->EvSmall x)/\Below w.heap.size w w':=by
 obtain⟨s0,n0,t0,k0,p0,i0,v0,x0⟩:=x;obtain⟨h0,h1,h2,h3⟩:=hb;dsimp only at h0 h1 h2 h3;have HES:Hid (EvSmall ⟨s0,n0,t0,k0,p0,i0,v0,x0⟩↔(s0.size<=300/\p0.size<=300/\i0.size<=300/\x0.size<=300)):=zh Iff.rfl;unfold evA;dsimp only;obtain⟨w1,hw1⟩:=zG (w.alloc (.cells #[.string s0,.int .i64 n0,.int .i64 t0,.int .i64 k0,.string p0,.string i0,.int .i64 v0,.string x0] 66));have bl:Blk w1 w.heap.size 66 #[.string s0,.int .i64 n0,.int .i64 t0,.int .i64 k0,.string p0,.string i0,.int .i64 v0,.string x0]:=by rw[<-hw1];exact Blk.new _ _ _
 have HB1:=zA hw1;have c0:w1.cell? ⟨w.heap.size,0,none⟩=some (.string s0):=bl.cell 0;have c4:w1.cell? ⟨w.heap.size,4,none⟩=some (.string p0):=bl.cell 4;have c5:w1.cell? ⟨w.heap.size,5,none⟩=some (.string i0):=bl.cell 5;have c7:w1.cell? ⟨w.heap.size,7,none⟩=some (.string x0):=bl.cell 7;clear bl;by_cases q0:(100:Int)<(s0.size:Int)
 ·go_enter Tryz.func57,Tryz.ntmps57;go_wp2_with fail;go_ret
  first|exact⟨true,rfl,fun h=>(by cases h),HB1.o⟩|exact Or.inr ⟨rfl,HB1.o⟩
 have d0:decide ((100:Int)<(s0.size:Int))=false:=decide_eq_false q0;by_cases q1:(100:Int)<(p0.size:Int)
 ·go_enter Tryz.func57,Tryz.ntmps57;go_wp2_with fail;go_ret
  first|exact⟨true,rfl,fun h=>(by cases h),HB1.o⟩|exact Or.inr ⟨rfl,HB1.o⟩
 have d1:decide ((100:Int)<(p0.size:Int))=false:=decide_eq_false q1;by_cases q2:(100:Int)<(i0.size:Int)
 ·go_enter Tryz.func57,Tryz.ntmps57;go_wp2_with fail;go_ret
  first|exact⟨true,rfl,fun h=>(by cases h),HB1.o⟩|exact Or.inr ⟨rfl,HB1.o⟩
 have d2:decide ((100:Int)<(i0.size:Int))=false:=decide_eq_false q2;by_cases q3:(100:Int)<(x0.size:Int)
 ·go_enter Tryz.func57,Tryz.ntmps57;go_wp2_with fail;go_ret
  first|exact⟨true,rfl,fun h=>(by cases h),HB1.o⟩|exact Or.inr ⟨rfl,HB1.o⟩
 have d3:decide ((100:Int)<(x0.size:Int))=false:=decide_eq_false q3;have HE:Hid (EvSmall ⟨s0,n0,t0,k0,p0,i0,v0,x0⟩):=zh (HES.o.2 (by omega));go_enter Tryz.func57,Tryz.ntmps57;go_wp2_with fail;go_ret
 first|exact⟨false,rfl,fun _=>HE.o,HB1.o⟩|exact Or.inl ⟨rfl,HE.o,HB1.o⟩
theorem Zjp (w:World)(B:Nat)(A:Option Addr)(l:List Ev)(n c:Nat)(hn:l.length=n)(hl:EvsAt w B A l)(hB:B<=w.heap.size)(hb:n<=140737488355328)(hbd:∀e∈l,EvBd e) :
  Calls Tryz.prog 16 #[.slice A n c,.int .i64 100] w fun e w'=>∃b:Bool,e = .returned (.bool b)/\(b=false->∀e∈l,EvSmall e)/\Below w.heap.size w w':=by
 have HN:=zh hn;have HL:=zh hl;have HD:=zh hbd;clear hn hl hbd;go_enter Tryz.func16,Tryz.ntmps16;go_wp2_with fail;go_loopw [5] (fun i wr=>∃k:Nat,k<=n/\i = .int .i64 k/\Hid (∀j e,j<k->l[j]? = some e->EvSmall e)/\Hid (Below w.heap.size w wr)) (fun i _=>n - (intOf i).toNat)
 case atStart=>exact⟨0,Nat.zero_le _,rfl,zh (fun j e hj=>by omega),zh (Below.refl _ _)⟩
 case round=>
  obtain⟨k,hk,rfl,hok,hbw⟩:=hrel;by_cases hlt:k<n
  ·obtain⟨x,hx⟩:∃x,l[k]? = some x:=⟨l[k]'(by rw[HN.o];exact hlt),List.getElem?_eq_getElem _⟩
   obtain⟨g,o,rfl,hgB,hcl⟩:=HL.o.at (by rw[HN.o];omega);obtain⟨e0,e1,e2,e3,e4,e5,e6,e7⟩:EvAt wr g (o+k*8) x:=(hcl k x hx).keep (fun j=>hbw.o.cell (p:=⟨g,j,none⟩) (Nat.lt_of_lt_of_le hgB hB));have HBG:=zh (Zma x wr (HD.o x (List.mem_of_getElem? hx)));have HX:=zh hx;have hk8:(k:Int)<(n:Int):=by omega
   have hk9:(0:Int)<=(k:Int):=by omega
   unfold evA at HBG;clear hcl hx;go_wp2_with fail;refine HBG.o.mono ?_;rintro e w2 ⟨b,rfl,hbs,hb2⟩;have HB2:=zT hbw hb2;clear HBG hb2;cases b
   ·have HSM:=zh (hbs rfl);clear hbs;go_wp2_with fail;go_roundw
    case rel=>
     refine⟨k+1,by omega,by go_num,zh (fun j e hj he=>?_),HB2⟩;by_cases h:j=k
     ·subst h;rw[HX.o]at he;cases he;exact HSM.o
     ·exact hok.o j e (by omega) he
    case measure=>simp[intOf];omega
   ·clear hbs;go_wp2_with fail;go_ret;exact⟨true,rfl,fun h=>(by cases h),HB2.o⟩
  ·go_wp2_with fail;go_ret;refine⟨false,rfl,fun _ e he=>?_,hbw.o⟩;obtain⟨j,hj⟩:=List.mem_iff_getElem?.1 he;have:=(List.getElem?_eq_some_iff.1 hj).1;rw[HN.o]at this;exact hok.o j e (by omega) hj
end Go.Proofs.YtphmhbcimhlcjaaGreatDoor
namespace Go.Proofs.YtphmhbcimhlcjaaGreatDoor
open Ru (Fz fzA fzX Nd holdsR)
def pS:ByteArray:=⟨#[112]⟩
def aS:ByteArray:=⟨#[97]⟩
def ev1:Ev:=⟨zzS,1,5,11,⟨#[]⟩,aS,0,noneT⟩
def ev2:Ev:=⟨zzS,2,5,12,⟨#[]⟩,aS,1,⟨#[]⟩⟩
theorem awk0:whyW [] pS aS 5 0 1 (some none)=1:=by kernel_rfl
theorem awk1:whyW [ev1] pS aS 5 0 1 (some none)=2:=by kernel_rfl
theorem awk2:whyW [ev1,ev2] pS aS 5 0 1 (some none)=0:=by kernel_rfl
theorem awc1:cureP [] 1 pS aS 5 0 = [ev1]:=by kernel_rfl
theorem awc2:cureP [ev1] 2 pS aS 5 0 = [ev2]:=by kernel_rfl
theorem awm1:mayB ev1=true:=by kernel_rfl
theorem Zc9:Closed []:=⟨List.Pairwise.nil,List.Pairwise.nil,fun e h=>by cases h⟩
theorem Zgb:Closed [ev1]:=⟨List.pairwise_singleton _ _,List.pairwise_singleton _ _,fun e h=>Or.inr (fun ⟨f,hf,hk,_⟩=>by
 obtain rfl:=List.mem_singleton.1 hf;exact absurd hk (by decide))⟩
theorem top1:OnTop [] [ev1]:=by
 have:=Zb0 (y:=1) (p:=pS) (i:=aS) (now:=5) (crowd:=0) Zc9 (fun e h=>by cases h)
 rwa [awc1]at this
theorem top2:OnTop [ev1] [ev2]:=by
 have:=Zb0 (y:=2) (p:=pS) (i:=aS) (now:=5) (crowd:=0) Zgb (fun e h=>by rw[List.mem_singleton.1 h];exact awm1)
 rwa [awc2]at this
theorem Zio:SortedE [ev1,ev2]:=List.pairwise_cons.2 ⟨fun e h=>by rw[List.mem_singleton.1 h];decide,List.pairwise_singleton _ _⟩
theorem an1 {fm:Ev->ByteArray}{E:List Ev}(h:AnewIs fm ([]++[ev1]) E):E = [ev1]:=Za3 h.sorted (List.pairwise_singleton _ _) (fun e=>by rw[Zbq Zc9 top1 h];simp)
theorem an2 {fm:Ev->ByteArray}{E:List Ev}(h:AnewIs fm ([ev1]++[ev2]) E):E = [ev1,ev2]:=Za3 h.sorted Zio (fun e=>by rw[Zbq Zgb top2 h];simp)
theorem top12:OnTop [] ([ev1]++[ev2]):=top1.app (E:=[ev1]) (fun e=>by simp) top2
theorem an12 {fm:Ev->ByteArray}{E:List Ev}(h:AnewIs fm ([]++([ev1]++[ev2])) E):E = [ev1,ev2]:=Za3 h.sorted Zio (fun e=>by rw[Zbq Zc9 top12 h];simp)
theorem Zjq {fm:Ev->ByteArray}{l:List (Nat×List Ev)}{E':List Ev}(h:ChainP fm pS aS 5 0 1 (some none) [] l E'):l = [(1,[ev1]),(2,[ev2])]:=by
 cases h with
 | stop h=>rw[awk0]at h;cases h
 | none h h0 hc=>
  rw[awk0]at h;subst h;rw[awc1]at hc;cases hc
 | more h h0 hc hne hE ht=>
  rw[awk0]at h;subst h;rw[awc1]at hc;subst hc;obtain rfl:=an1 hE;cases ht with
  | stop h=>rw[awk1]at h;cases h
  | none h h0 hc=>
   rw[awk1]at h;subst h;rw[awc2]at hc;cases hc
  | more h h0 hc hne hE ht=>
   rw[awk1]at h;subst h;rw[awc2]at hc;subst hc;obtain rfl:=an2 hE;cases ht with
   | stop h=>rfl
   | none h h0 hc=>rw[awk2]at h;exact absurd h.symm h0
   | more h h0 hc hne hE ht=>rw[awk2]at h;exact absurd h.symm h0
theorem Zmb {fm:Ev->ByteArray}{E:List Ev}(h:AnewIs fm ([]++evsC [(1,[ev1]),(2,[ev2])]) E):whyW E pS aS 5 0 1 (some none)=0:=by
 obtain rfl:=an12 h;exact awk2
end Go.Proofs.YtphmhbcimhlcjaaGreatDoor
namespace Go.Proofs.YtphmhbcimhlcjaaGreatDoor
open Go.Shelf Go.RowKit Go.Maps
open Ru (Fz fzA fzX Nd holdsR RuleV ruleT Says errOf ErrAt TabAt)
section
variable {P : Program}
theorem Zel {ops:Array Oper}{rest:List Oper}{o:Oper}{a:Act}{w:World}{Q:Exit->Act->World->Prop}(hw:Region.wanted o (yielded ops a.tmps)=true)(ty:TypeId)(x:Operand)(ho:o.op = .load ty x)
  (g:Nat) (hx:a.eval x = .pointer (some ⟨g,0,none⟩)) (t:TypeId) (cs:Array Value) (fr:Nat×Nat) (d:TypeDesc) (hg:w.heap[g]? = some (.cells cs t fr))
  (hu:P.underlying ty=some d) (hd:(match d with | .struct _ | .array _ _=>true|_=>false)=true) (hi:(P.info? ty).map (·.size)=some cs.size)
  (h:wpList P ops Q rest (a.put o.dst (.agg cs)) w):wpList P ops Q (o::rest) a w:=by
 unfold wpList;rw[if_pos hw];exact Or.inl (wp_load_row ty x ho g hx t cs fr d hg hu hd hi h)
end
def awC:Cfg:=⟨1,1,0,1,0,0⟩
def awG:Sg:=⟨awC,0,0,0,0,0,0,0,0,0,0,0,0,0,⟨#[]⟩,ownS,0⟩
theorem Zk9:CfgOk awC:=by constructor <;> decide
theorem Zru:SgOk awG none:=⟨Zk9,by decide,by decide,by decide,by decide,by decide,by decide,⟨_,Ru.says0⟩⟩
theorem Zot {us:List (Nat×Value)}{w:World}(h:ChsIn w us [(1,[ev1]),(2,[ev2])]):∃A1 c1 A2 c2,us = [(1,.slice A1 1 c1),(2,.slice A2 1 c2)]:=by
 obtain⟨h1,h2⟩:=h
 match us,h1 with
 | [u,v],_=>
  obtain⟨e1,A1,c1,e2,_⟩:=h2 0 u (1,[ev1]) rfl rfl;obtain⟨e3,A2,c2,e4,_⟩:=h2 1 v (2,[ev2]) rfl rfl;obtain⟨u1,u2⟩:=u;obtain⟨v1,v2⟩:=v;dsimp only at e1 e2 e3 e4;subst e1 e2 e3 e4;exact⟨A1,c1,A2,c2,rfl⟩
theorem awake41_any (w:World)(hg:Lb2 w):Calls Tryz.prog 6 #[] w fun e w'=>e = .returned (.bool true)/\Below w.heap.size w w':=by
 have HLB:Hid (∀W,Below w.heap.size w W->Lb2 W):=zh (fun W hb=>hg.keep hb);have HT:Hid (toldB pS aS 5=true):=zh (by decide);obtain⟨sa,hsa⟩:=zG (sgArr awG);have HSA:=zh hsa;have HSI:Hid ((Tryz.prog.info? 37).map (·.size)=some sa.size):=zh (by rw[<-hsa];exact Zb6);clear hg hsa;go_enter Tryz.func6,Tryz.ntmps6
 go_upto_region 2 with (first
  | (refine Zad _ rfl 37 (.tmp 1) (.tmp 6) rfl 0 (sgArr awG) rfl rfl (Blk.new _ _ _) (by show 0+22<=22;omega) Zb6 (by simp[sgArr,Value.oneCell']) ?_;intro w1 hb1 hk1 hs1)
  | fail)
 (try simp only[Exit.inBlock,Exit.then])
 simp only[sgArr,putA,xq1,xq2,xq3]at hb1;have HX1:Hid (Blk w1 w.heap.size 37 (sgArr awG)):=zh hb1;have HB1:Hid (Below w.heap.size w w1):=zh (((Below.refl _ _).alloc (zr _) _).trans (hk1.toBelow (fun i hi=>by rw[hi];exact zr _) (by simp)));clear hb1 hk1 hs1;have c0:w1.cell? ⟨w.heap.size,0,none⟩=some (.int .i64 1):=HX1.o.cell 0;have c1:w1.cell? ⟨w.heap.size,1,none⟩=some (.int .i64 1):=HX1.o.cell 1;have c2:w1.cell? ⟨w.heap.size,2,none⟩=some (.int .i64 0):=HX1.o.cell 2;have c3:w1.cell? ⟨w.heap.size,3,none⟩=some (.int .i64 1):=HX1.o.cell 3;have c4:w1.cell? ⟨w.heap.size,4,none⟩=some (.int .i64 0):=HX1.o.cell 4;have c5:w1.cell? ⟨w.heap.size,5,none⟩=some (.int .i64 0):=HX1.o.cell 5;rw[HSA.o]at HX1;have hlb:=HLB.o w1 HB1.o;have HC:=zh (wof_any awC w1 w1.heap.size none [] 0 0 Zk9 rfl ⟨rfl,Or.inl rfl⟩ (zr _) (by omega) (fun e h=>by cases h) hlb.g hlb.k hlb.t);unfold cfgA awC at HC;dsimp only at HC;clear hlb;go_wp2_with fail;refine HC.o.mono ?_;rintro e w2 ⟨wb,base,E,rfl,han,hwa,_,hb2⟩;have hE:E = []:=List.length_eq_zero_iff.1 (by have:=han.few;simpa using this);subst hE;obtain⟨ct,cr,hw2⟩:=hwa.read;have HB2:Hid (Below w1.heap.size w1 w2):=zh hb2;have HW2:=zh hw2;have HX2:Hid (Blk w2 w.heap.size 37 sa):=zh ((HB2.o.block _ HX1.o.lt).trans HX1.o);have HBW2:=zT HB1 HB2.o;clear han hwa hb2 HC c0 c1 c2 c3 c4 c5 hw2;have HNE:Hid (WnE 200 []):=zh ⟨Zc9,fun e h=>(by cases h),(by simp)⟩;have HC:=zh (whof_yes HW2.o HNE.o Zk9 (by decide) awG none Zru pS aS 5 HT.o (HLB.o w2 HBW2.o));unfold sgA pS aS at HC;rw[HSA.o]at HC
 go_wp2_with (first
  | (refine wpList_load_row rfl 37 _ rfl w.heap.size rfl 37 sa (0,0) _ HX2.o Tryz.underlying37 rfl HSI.o ?_)
  | fail)
 refine HC.o.mono ?_;rintro e w3 ⟨l,E2,A,cp,us,rfl,hch,hrow,hins,hnil,hb3⟩;have hl:=Zjq hch;subst hl;obtain⟨A1,k1,A2,k2,rfl⟩:=Zot hins;obtain⟨b,off,rfl,hbl,hcl⟩:=hrow.at (by decide);have HIN:=zh (And.intro hrow hins);have HB3:Hid (Below w2.heap.size w2 w3):=zh hb3;have HX3:Hid (Blk w3 w.heap.size 37 sa):=zh ((HB3.o.block _ HX2.o.lt).trans HX2.o);have HBW3:=zT HBW2 HB3.o;have c0:w3.cell? ⟨b,off,none⟩=some (.int .i64 1):=hcl 0 _ rfl;have c1:w3.cell? ⟨b,off+1,none⟩=some (.slice A1 1 k1):=hcl 1 _ rfl;have c2:w3.cell? ⟨b,off+2,none⟩=some (.int .i64 2):=hcl 2 _ rfl;have c3:w3.cell? ⟨b,off+3,none⟩=some (.slice A2 1 k2):=hcl 3 _ rfl
 have HC:=zh (cures_yes (HW2.o.below HB3.o) HNE.o Zk9 (by decide) awG none Zru pS aS 5 HT.o (HLB.o w3 HBW3.o) [(1,[ev1]),(2,[ev2])] _ (some ⟨b,off,none⟩) 2 cp rfl (by omega) HIN.o.1 HIN.o.2 (by
  intro e he;have h:e=ev1\/e=ev2:=by simpa [evsC] using he
  rcases h with rfl|rfl
  ·exact⟨by kernel_rfl,by decide,by decide,by decide,by decide⟩
  ·exact⟨by kernel_rfl,by decide,by decide,by decide,by decide⟩) (by
  intro x hx;simp only[List.mem_cons,List.not_mem_nil,or_false]at hx;rcases hx with rfl|rfl <;> simp))
 unfold sgA pS aS at HC;rw[HSA.o]at HC;clear hrow hins hnil hch hb3 hbl hcl;dsimp only[List.length_cons,List.length_nil]
 go_wp2_with (first
  | (refine Zel (by rfl) 37 _ rfl w.heap.size rfl 37 sa (0,0) _ HX3.o Tryz.underlying37 rfl HSI.o ?_)
  | fail)
 refine HC.o.mono ?_;rintro e w4 ⟨E3,han3,he,hb4⟩;have h0:=Zmb han3;obtain rfl:e = .returned (.bool true):=he.trans (congrArg (fun b=>Ending.returned (.bool b)) (decide_eq_true h0));have HB4:=zT HBW3 hb4;clear han3 hb4 h0 he;go_wp2_with fail;go_ret;exact⟨rfl,HB4.o⟩
end Go.Proofs.YtphmhbcimhlcjaaGreatDoor
namespace Go.Proofs.YtphmhbcimhlcjaaGreatDoor
open Go.Shelf Go.RowKit Go.Maps
open Ru (Fz fzA fzX Nd holdsR RuleV ruleT Says errOf ErrAt TabAt)
end Go.Proofs.YtphmhbcimhlcjaaGreatDoor
namespace Go.Proofs.YtphmhbcimhlcjaaGreatDoor
open Go.ChangeShapes Go.WideShapes Go.RowKit
end Go.Proofs.YtphmhbcimhlcjaaGreatDoor
namespace Go.Proofs.YtphmhbcimhlcjaaGreatDoor
open Go.Shelf Go.RowKit Go.Maps
open Ru (Fz fzA fzX Nd holdsR RuleV ruleT Says errOf ErrAt TabAt)
theorem ev_size8:(Tryz.prog.info? 66).map (·.size)=some 8:=by kernel_rfl
end Go.Proofs.YtphmhbcimhlcjaaGreatDoor
namespace Go.Proofs.YtphmhbcimhlcjaaGreatDoor
open Go.Shelf Go.RowKit Go.Maps
open Ru (digW Zak)
theorem itoa_dig (n:Nat):itoaB (n:Int)=digW n:=by unfold itoaB digW;rw[Lib.itoa_nonneg]
def DigTo (m n:Nat)(s:ByteArray):Prop:=digW m=digW n++s
theorem DigTo.start (m:Nat):DigTo m m ⟨#[]⟩:=by
 unfold DigTo;apply ba_eq;simp[ByteArray.data_append]
theorem DigTo.next {m n:Nat}{s:ByteArray}(h:DigTo m n s)(hn:10<=n):DigTo m (n / 10) (⟨#[UInt8.ofNat (48+n % 10)]⟩++s):=by
 unfold DigTo at h ⊢;rw[h];apply ba_eq;simp only[ByteArray.data_append,Array.toList_append,Zak]
 conv=>lhs;rw[Lib.decDigits,dif_neg (by omega)]
 simp
theorem DigTo.fin {m n:Nat}{s:ByteArray}(h:DigTo m n s)(hn:n<10):digW m=⟨#[UInt8.ofNat (48+n)]⟩++s:=by
 unfold DigTo at h;rw[h];apply ba_eq;simp only[ByteArray.data_append,Array.toList_append,Zak];rw[Lib.decDigits,dif_pos hn]
theorem dig_small {n:Nat}(hn:n<=2000000000000):(digW n).size<=21:=by
 have:=Zee (n:=(n:Int)) ⟨by omega,by omega⟩
 rwa [itoa_dig]at this
theorem DigTo.few {m n:Nat}{s:ByteArray}(h:DigTo m n s)(hm:m<=2000000000000):s.size<=21:=by
 have h1:=dig_small hm;unfold DigTo at h;rw[h,ByteArray.size_append]at h1;omega
theorem one_back (w:World)(b:UInt8)(z:Int)(hz:z=(b.toNat:Int)):(convert 162 9 (.slice (some ⟨w.heap.size,0,none⟩) 1 1)).run Tryz.prog (w.alloc (.cells #[.int .u8 z] 5)) = .ok (.string ⟨#[b]⟩) (w.alloc (.cells #[.int .u8 z] 5)):=by
 subst hz;have HK:Blk (w.alloc (.cells #[.int .u8 (b.toNat:Int)] 5)) w.heap.size 5 #[.int .u8 (b.toNat:Int)]:=Blk.new _ _ _
 exact run_convert_bytes_back (P:=Tryz.prog) _ 162 9 5 ⟨w.heap.size,0,none⟩ 1 [b] Tryz.underlying162 Tryz.underlying5 Tryz.underlying9 (fun j hj=>by
  obtain rfl:j=0:=by simpa using hj
  exact HK.cell 0)
theorem rdigits_any (n:Nat)(w:World)(hn:n<=2000000000000) :
  Calls Tryz.prog 54 #[.int .i64 n] w fun e w'=>e = .returned (.string (digW n))/\Below w.heap.size w w':=by
 go_enter Tryz.func54,Tryz.ntmps54;go_wp2_with fail;go_loopw [0,3] (fun i s wr=>∃(k:Nat) (t:ByteArray),k<=n/\i = .int .i64 k/\s = .string t/\t.size<=21/\Hid (DigTo n k t)/\Hid (Below w.heap.size w wr)) (fun i _ _=>(intOf i).toNat)
 case atStart=>exact⟨n,⟨#[]⟩,zr _,rfl,rfl,by decide,zh (DigTo.start n),zh (Below.refl _ _)⟩
 case round=>
  obtain⟨k,t,hk,rfl,rfl,hts,hdg,hbw⟩:=hrel;have hzw:=hbw.o.size;by_cases hlt:9<k
  ·have h9:(9:Int)<(k:Int):=by omega
   obtain⟨b,hb⟩:=zG (UInt8.ofNat (48+k % 10):UInt8);have hbn:48+(k:Int) % 10=(b.toNat:Int):=by
    rw[<-hb,UInt8.toNat_ofNat_of_lt' (by show _<256;omega)];omega
   have hcv:=one_back wr b _ hbn;have HD:Hid (DigTo n (k / 10) (⟨#[b]⟩++t)):=zh (by rw[<-hb];exact hdg.o.next (by omega));have HS:Hid ((⟨#[b]⟩++t:ByteArray).size<=21):=zh (HD.o.few hn);have HBW:Hid (Below w.heap.size w (wr.alloc (.cells #[.int .u8 (48+(k:Int) % 10)] 5))):=zh (hbw.o.alloc hzw _);have hb1:(⟨#[b]⟩:ByteArray).size=1:=rfl;clear hbn hb;go_wp2_with fail;go_roundw
   case rel=>exact⟨k / 10,_,by omega,by go_num,rfl,HS.o,HD,HBW⟩
   case measure=>simp[intOf];omega
  ·obtain⟨b,hb⟩:=zG (UInt8.ofNat (48+k):UInt8);have hbn:48+(k:Int)=(b.toNat:Int):=by
    rw[<-hb,UInt8.toNat_ofNat_of_lt' (by show _<256;omega)];omega
   have hcv:=one_back wr b _ hbn;have HD:Hid (digW n=⟨#[b]⟩++t):=zh (by rw[<-hb];exact hdg.o.fin (by omega));have HBW:Hid (Below w.heap.size w (wr.alloc (.cells #[.int .u8 (48+(k:Int))] 5))):=zh (hbw.o.alloc hzw _);have hb1:(⟨#[b]⟩:ByteArray).size=1:=rfl;clear hbn hb;go_wp2_with fail;go_ret;exact⟨congrArg (fun s=>Ending.returned (Value.string s)) HD.o.symm,HBW.o⟩
end Go.Proofs.YtphmhbcimhlcjaaGreatDoor
namespace Go.Proofs.YtphmhbcimhlcjaaGreatDoor
section
variable {P : Program} {ops : Array Oper} {md : Region.Mode} {Q : Exit -> Act -> World -> Prop} {S S' : World -> Prop}
theorem wpAnyH_weak (hS:∀W,S' W->S W):∀(fuel:Nat) (listed:Array Bool) (a:Act) (w:World),wpAnyH P md ops Q S' fuel listed a w->wpAnyH P md ops Q S fuel listed a w
 | 0,listed,a,w,h=>h
 | fuel+1,listed,a,w,h=>
  ⟨h.1,fun i hi=>wpOp_mono (fun a' w' h'=>⟨hS w' h'.1,wpAnyH_weak hS fuel _ a' w' h'.2⟩) (h.2 i hi)⟩
def wpPlanV (P:Program)(ops:Array Oper)(Q:Exit->Act->World->Prop):List (Oper×Bool)->(World->Prop)->Act->World->Prop
 | [],S,a,w=>Q .normal a w
 | (o,true)::r,S,a,w=>wpList P ops (Exit.then (fun a' w'=>∃S',(∀W,S' W->S W)/\S' w'/\wpPlanV P ops Q r S' a' w') Q) [o] a w
 | (o,false)::r,S,a,w=>∃v,YieldsIf P ops S o v a/\wpPlanV P ops Q r S (a.put o.dst v) w
theorem planV_on {o:Oper}{r:List (Oper×Bool)}{a:Act}{w:World}(v:Value)(hw:Region.wanted o (yielded ops a.tmps)=true)(hy:∀W,S W->(execOp a.eval o).run P W = .ok (.value v) W)(h:wpPlanV P ops Q r S (a.put o.dst v) w):wpPlanV P ops Q ((o,false)::r) S a w:=
 ⟨v,Or.inl ⟨hw,hy⟩,h⟩
theorem planV_turn {o:Oper}{r:List (Oper×Bool)}{a:Act}{w:World}(h:wpList P ops (Exit.then (fun a' w'=>∃S',(∀W,S' W->S W)/\S' w'/\wpPlanV P ops Q r S' a' w') Q) [o] a w):wpPlanV P ops Q ((o,true)::r) S a w:=h
theorem planV_done {a:Act}{w:World}(h:Q .normal a w):wpPlanV P ops (NoPanic Q) [] S a w:=NoPanic.normal h
theorem planV_any {l:List Oper}(hl:ops=l.toArray)(hsel:Region.noSelect ops=true)(hQ:∀c (a:Act) d v w,Q (.panic c) (a.put d v) w->Q (.panic c) a w):∀(pl:List (Nat×Bool)) (S:World->Prop) (listed:Array Bool) (a:Act) (w:World),planB md ops pl listed=true->S w ->
  wpPlanV P ops Q (planL l pl) S a w->wpAnyH P md ops Q S pl.length listed a w
 | [],S,listed,a,w,hB,hS,h=>⟨of_decide_eq_true hB,h⟩
 | (i,true)::r,S,listed,a,w,hB,hS,h=>by
  simp only[planB,Bool.and_eq_true,decide_eq_true_eq]at hB;obtain⟨hr,hB'⟩:=hB;have hi:i∈Region.ready md ops listed:=by rw[hr];simp
  obtain⟨_,o,ho,_⟩:=mem_ready.1 hi;have hlo:l[i]? = some o:=by rw[hl]at ho;simpa using ho
  simp only[planL,hlo]at h;refine wpAnyH_all hr (by simp) (fun j hj=>?_);obtain rfl:j=i:=by simpa using hj
  have hw:wpOp P ops Q j (fun a' w'=>∃S',(∀W,S' W->S W)/\S' w'/\wpPlanV P ops Q (planL l r) S' a' w') a w:=by
   unfold wpOp;rw[ho];exact h
  exact wpOp_mono (fun a' w' ⟨S',h1,h2,h3⟩=>⟨h1 w' h2,wpAnyH_weak h1 _ _ _ _ (planV_any hl hsel hQ r S' _ a' w' hB' h2 h3)⟩) hw
 | (i,false)::r,S,listed,a,w,hB,hS,h=>by
  simp only[planB,Bool.and_eq_true]at hB;obtain⟨⟨hr,hf⟩,hB'⟩:=hB;have hi:i∈Region.ready md ops listed:=by simpa using hr
  obtain⟨_,o,ho,_⟩:=mem_ready.1 hi;have hlo:l[i]? = some o:=by rw[hl]at ho;simpa using ho
  simp only[planL,hlo]at h;obtain⟨v,hy,h'⟩:=h;exact wpAnyH_take ho hsel hf hr (fun c a w=>hQ c a _ _ w) hy hS (planV_any hl hsel hQ r S _ _ w hB' hS h')
theorem wp_planV {id:Nat}{a:Act}{w:World}{l:List Oper}(S:World->Prop)(pl:List (Nat×Bool))(hm:P.follows .mixedOrders=true)
  (hB:(Region.noSelect l.toArray&&decide (pl.length=l.length)&&planB .any l.toArray pl (Array.replicate l.length false))=true)
  (hS:S w.drew) (h:wpPlanV P l.toArray (NoPanic Q) (planL l pl) S a w.drew):(Code.region id l.toArray true).wp P Q a w:=by
 simp only[Bool.and_eq_true,decide_eq_true_eq]at hB;obtain⟨⟨h1,h2⟩,h3⟩:=hB;refine wp_region_noPanic ?_;refine wp_region_held (S:=S) hm ?_;have:=planV_any (md:=.any) rfl h1 (fun c a d v w h=>h) pl S _ a w.drew h3 hS h;rw[h2]at this;simpa using this
end
end Go.Proofs.YtphmhbcimhlcjaaGreatDoor
namespace Go.Proofs.YtphmhbcimhlcjaaGreatDoor
open Go.Shelf Go.RowKit Go.Maps
open Ru (digW Zak)
theorem rkinds_any (w:World):Calls Tryz.prog 104 #[] w fun e w'=>e = .returned (.slice (some ⟨w.heap.size,0,none⟩) 15 15)/\Below w.heap.size w w'/\w.heap.size<w'.heap.size/\∀(j:Nat) x,kindsL[j]? = some x->w'.cell? ⟨w.heap.size,j,none⟩=some (.string x):=by
 obtain⟨w1,hw1⟩:=zG (w.alloc (.cells (kindsL.map Value.string).toArray 9));have HX1:Hid (Blk w1 w.heap.size 9 (kindsL.map Value.string).toArray):=zB hw1;have HB1:=zA hw1;unfold kindsL at hw1;simp only[List.map_cons,List.map_nil]at hw1;go_enter Tryz.func104,Tryz.ntmps104;go_wp2_with fail;try rw[hw1]
 go_ret;refine⟨rfl,HB1.o,HX1.o.lt,fun j x hx=>?_⟩;rw[HX1.o.cell j];simp[hx]
theorem rsome_any (s:ByteArray)(w:World):Calls Tryz.prog 105 #[.string s] w fun e w'=>e = .returned (.string (dotB s))/\w'=w:=by
 by_cases hs:s=⟨#[]⟩
 ·have z1:s.toList.isEmpty=true:=by rw[Zcj,decide_eq_true hs]
  have HD:Hid (dotB s=⟨#[46]⟩):=zh (if_pos hs);clear hs;go_enter Tryz.func105,Tryz.ntmps105;go_wp2_with fail;go_ret;exact⟨by rw[HD.o];rfl,rfl⟩
 ·have z1:s.toList.isEmpty=false:=by rw[Zcj,decide_eq_false hs]
  have HD:Hid (dotB s=s):=zh (if_neg hs);clear hs;go_enter Tryz.func105,Tryz.ntmps105;go_wp2_with fail;go_ret;exact⟨by rw[HD.o];rfl,rfl⟩
theorem dot_size (s:ByteArray):(dotB s).size<=s.size+1:=by
 unfold dotB;split
 ·show 1<=_;omega
 ·omega
theorem fmtJ_eq (e:Ev):fmtJ e=dotB e.src++⟨#[32]⟩++dotB (itoaB e.num)++⟨#[32]⟩++dotB (itoaB e.tick)++⟨#[32]⟩++dotB (kindS e.kind)++⟨#[32]⟩++dotB e.person++⟨#[32]⟩++dotB e.item++⟨#[32]⟩++dotB (itoaB e.value)++⟨#[32]⟩++dotB e.text:=by
 apply ba_eq;unfold fmtJ fmtW;simp[Lib.join,List.intercalate,ByteArray.data_append]
theorem itoa_dot (n:Nat):dotB (digW n)=digW n:=by
 unfold dotB;rw[if_neg (fun h=>?_)];have h1:(digW n).data.toList = []:=by rw[h]
 rw[Zak]at h1;exact Ru.Zrj n h1
theorem rformat_any (e:Ev)(w:World)(hok:EvOk e):Calls Tryz.prog 62 #[evA e] w fun x w'=>x = .returned (.string (fmtJ e))/\Below w.heap.size w w':=by
 have hp:=Zas hok.1;obtain⟨nn,hnn⟩:∃n:Nat,e.num=n:=⟨e.num.toNat,by omega⟩
 obtain⟨nt,hnt⟩:∃n:Nat,e.tick=n:=⟨e.tick.toNat,by omega⟩
 obtain⟨nv,hnv⟩:∃n:Nat,e.value=n/\n<=1048576:=⟨e.value.toNat,by have:=Znt hok.1;omega⟩
 obtain⟨j,hj⟩:∃j:Nat,e.kind=j:=⟨e.kind.toNat,by
  have h1:=Zdr hok.1;have h2:0<=e.kind:=by
   have h3:=(Zas hok.1).2.2.2;unfold kindB at h3;by_cases hk:0<=e.kind
   ·exact hk
   ·exfalso
    repeat (first|(rw[if_neg (by omega)]at h3)|cases h3)
  omega⟩
 have hj15:j<15:=by have:=Zdr hok.1;omega
 obtain⟨ks,hks⟩:∃ks,kindsL[j]? = some ks:=⟨kindsL[j]'(by show j<15;exact hj15),List.getElem?_eq_getElem _⟩
 have HKS:Hid (kindS e.kind=ks):=zh (by unfold kindS;rw[hj,Int.toNat_natCast,List.getD_eq_getElem?_getD,hks];rfl);have hkz:ks.size<=10:=by rw[<-HKS.o];exact Zlq _
 have hkd:dotB ks=ks:=if_neg (fun h=>by
  have h2:∀x∈kindsL,x≠⟨#[]⟩:=by decide
  exact h2 ks (List.mem_of_getElem? hks) h)
 have hsd:dotB e.src=e.src:=if_neg (fun h=>by
  have h2:=hp.1;rw[h]at h2;exact absurd h2 (by decide))
 obtain⟨a1,a2,a3,a4⟩:=hok.2;obtain⟨dn,hdn⟩:=zG (digW nn);obtain⟨dt,hdt⟩:=zG (digW nt);obtain⟨dv,hdv⟩:=zG (digW nv);have zn:dn.size<=21:=by rw[<-hdn];exact dig_small (by omega)
 have zt:dt.size<=21:=by rw[<-hdt];exact dig_small (by omega)
 have zv:dv.size<=21:=by rw[<-hdv];exact dig_small (by omega)
 obtain⟨dp,hdp⟩:=zG (dotB e.person);obtain⟨di,hdi⟩:=zG (dotB e.item);obtain⟨dx,hdx⟩:=zG (dotB e.text);have zp:dp.size<=301:=by rw[<-hdp];have:=dot_size e.person;omega
 have zi:di.size<=301:=by rw[<-hdi];have:=dot_size e.item;omega
 have zx:dx.size<=301:=by rw[<-hdx];have:=dot_size e.text;omega
 have HF:Hid (e.src++⟨#[32]⟩++dn++⟨#[32]⟩++dt++⟨#[32]⟩++ks++⟨#[32]⟩++dp++⟨#[32]⟩++di++⟨#[32]⟩++dv++⟨#[32]⟩++dx=fmtJ e):=zh (by
  rw[fmtJ_eq,hsd,hnn,hnt,hnv.1,HKS.o,hkd,itoa_dig,itoa_dig,itoa_dig,itoa_dot,itoa_dot,itoa_dot,hdn,hdt,hdv,hdp,hdi,hdx])
 have HDN:Hid (∀W,Calls Tryz.prog 54 #[.int .i64 e.num] W fun e w'=>e = .returned (.string dn)/\Below W.heap.size W w'):=zh (fun W=>by rw[hnn,<-hdn];exact rdigits_any nn W (by omega));have HDT:Hid (∀W,Calls Tryz.prog 54 #[.int .i64 e.tick] W fun e w'=>e = .returned (.string dt)/\Below W.heap.size W w'):=zh (fun W=>by rw[hnt,<-hdt];exact rdigits_any nt W (by omega));have HDV:Hid (∀W,Calls Tryz.prog 54 #[.int .i64 e.value] W fun e w'=>e = .returned (.string dv)/\Below W.heap.size W w'):=zh (fun W=>by rw[hnv.1,<-hdv];exact rdigits_any nv W (by omega));have HSP:Hid (∀W,Calls Tryz.prog 105 #[.string e.person] W fun e w'=>e = .returned (.string dp)/\w'=W):=zh (fun W=>by rw[<-hdp];exact rsome_any _ W);have HSI:Hid (∀W,Calls Tryz.prog 105 #[.string e.item] W fun e w'=>e = .returned (.string di)/\w'=W):=zh (fun W=>by rw[<-hdi];exact rsome_any _ W);have HSX:Hid (∀W,Calls Tryz.prog 105 #[.string e.text] W fun e w'=>e = .returned (.string dx)/\w'=W):=zh (fun W=>by rw[<-hdx];exact rsome_any _ W);obtain⟨w1,hw1⟩:=zG (w.alloc (.cells (evArr e) 66));have HE1:Hid (Blk w1 w.heap.size 66 (evArr e)):=zB hw1;have HB1:=zA hw1
 have HSC:Hid (∀W,Below w1.heap.size w1 W->EvAt W w.heap.size 0 e):=zh (fun W hb=>by
  have h:Blk W w.heap.size 66 (evArr e):=(hb.block _ HE1.o.lt).trans HE1.o;exact⟨h.cell 0,h.cell 1,h.cell 2,h.cell 3,h.cell 4,h.cell 5,h.cell 6,h.cell 7⟩)
 have HKL:=zh hks;have HKJ:Hid (e.kind=(j:Int)):=zh hj;have hj8:(0:Int)<=e.kind:=by omega
 have hj9:e.kind<15:=by omega
 have hjt:e.kind.toNat=j:=by omega
 have sp1:(⟨#[32]⟩:ByteArray).size=1:=rfl;have hz0:w1.heap.size=w.heap.size+1:=by rw[<-hw1];simp
 have HZ0:=zh hz0;unfold evA;unfold evArr at hw1;clear hok hp hnn hnt hnv hj hks hkd hsd hdn hdt hdv hdp hdi hdx hz0;go_enter Tryz.func62,Tryz.ntmps62;go_upto_region 1 with fail;try rw[hw1]
 clear hw1;refine wp_planV (fun W=>Below w1.heap.size w1 W) [(0,false),(1,false),(2,false),(3,false),(4,false),(8,false),(9,false),(14,false),(15,false),(20,false),(21,false),(25,false),(26,false),(30,false),(31,false),(35,false),(36,false),(5,true),(6,false),(7,false),(10,true),(11,false),(12,false),(13,true),(16,false),(17,false),(18,false),(19,false),(22,true),(23,false),(24,false),(27,true),(28,false),(29,false),(32,true),(33,false),(34,false),(37,true),(38,false),(39,false)] (by kernel_rfl) (by kernel_rfl) (below_drew (Below.refl _ _)) ?_;simp only[planL,xq4,xq5];obtain⟨wd,hwd⟩:=zG (w1.drew);have HBD:=zD hwd;rw[hwd];clear hwd
 repeat ((first|(refine planV_on _ (by rfl) (fun W hW=>by (obtain⟨x0,x1,x2,x3,x4,x5,x6,x7⟩:=HSC.o W hW;go_simp;try (first|with_reducible rfl|rw[if_neg (by omega)]))) ?_)|(refine planV_off (by rfl) ?_));simp only[Act.put,xq1,xq2,xq3])
 refine planV_turn ?_;have HC:=zh (HDN.o wd);go_wp2_with fail;refine HC.o.mono ?_;rintro e v1 ⟨rfl,hbv1⟩;have HBv1:=zT HBD hbv1;clear hbv1 HC HDN;go_wp2_with fail;refine⟨_,fun W hW=>hW,HBv1.o,?_⟩
 repeat ((first|(refine planV_on _ (by rfl) (fun W hW=>by (obtain⟨x0,x1,x2,x3,x4,x5,x6,x7⟩:=HSC.o W hW;go_simp;try (first|with_reducible rfl|rw[if_neg (by omega)]))) ?_)|(refine planV_off (by rfl) ?_));simp only[Act.put,xq1,xq2,xq3])
 refine planV_turn ?_;have HC:=zh (HDT.o v1);go_wp2_with fail;refine HC.o.mono ?_;rintro e v2 ⟨rfl,hbv2⟩;have HBv2:=zT HBv1 hbv2;clear hbv2 HC HDT;go_wp2_with fail;refine⟨_,fun W hW=>hW,HBv2.o,?_⟩
 repeat ((first|(refine planV_on _ (by rfl) (fun W hW=>by (obtain⟨x0,x1,x2,x3,x4,x5,x6,x7⟩:=HSC.o W hW;go_simp;try (first|with_reducible rfl|rw[if_neg (by omega)]))) ?_)|(refine planV_off (by rfl) ?_));simp only[Act.put,xq1,xq2,xq3])
 refine planV_turn ?_;have HC:=zh (rkinds_any v2);go_wp2_with fail;refine HC.o.mono ?_;rintro e v3 ⟨rfl,hbv3,hlt3,hck⟩;have HBv3:=zT HBv2 hbv3;have HCK:Hid (World.cell? v3 ⟨v2.heap.size,j,none⟩=some (.string ks)):=zh (hck j ks HKL.o);obtain⟨kb,hkb⟩:=zG (v2.heap.size);rw[hkb]at HCK hlt3;have HLT:=zh hlt3;try rw[hkb]
 clear hbv3 HC hck hkb hlt3;go_wp2_with fail;refine⟨fun W=>Below w1.heap.size w1 W/\World.cell? W ⟨kb,j,none⟩=some (.string ks),fun W hW=>hW.1,⟨HBv3.o,HCK.o⟩,?_⟩
 repeat ((first|(refine planV_on _ (by rfl) (fun W hW=>by (obtain⟨hW1,hk⟩:=hW;obtain⟨x0,x1,x2,x3,x4,x5,x6,x7⟩:=HSC.o W hW1;go_simp;try (first|with_reducible rfl|rw[if_neg (by omega)]))) ?_)|(refine planV_off (by rfl) ?_));simp only[Act.put,xq1,xq2,xq3])
 refine planV_turn ?_;have HC:=zh (HSP.o v3);go_wp2_with fail;refine HC.o.mono ?_;rintro e v4 ⟨rfl,hv⟩;obtain rfl:=hv.symm;clear HC;go_wp2_with fail;refine⟨_,fun W hW=>hW,⟨HBv3.o,HCK.o⟩,?_⟩
 repeat ((first|(refine planV_on _ (by rfl) (fun W hW=>by (obtain⟨hW1,hk⟩:=hW;obtain⟨x0,x1,x2,x3,x4,x5,x6,x7⟩:=HSC.o W hW1;go_simp;try (first|with_reducible rfl|rw[if_neg (by omega)]))) ?_)|(refine planV_off (by rfl) ?_));simp only[Act.put,xq1,xq2,xq3])
 refine planV_turn ?_;have HC:=zh (HSI.o v3);go_wp2_with fail;refine HC.o.mono ?_;rintro e v5 ⟨rfl,hv⟩;obtain rfl:=hv.symm;clear HC;go_wp2_with fail;refine⟨_,fun W hW=>hW,⟨HBv3.o,HCK.o⟩,?_⟩
 repeat ((first|(refine planV_on _ (by rfl) (fun W hW=>by (obtain⟨hW1,hk⟩:=hW;obtain⟨x0,x1,x2,x3,x4,x5,x6,x7⟩:=HSC.o W hW1;go_simp;try (first|with_reducible rfl|rw[if_neg (by omega)]))) ?_)|(refine planV_off (by rfl) ?_));simp only[Act.put,xq1,xq2,xq3])
 refine planV_turn ?_;have HC:=zh (HDV.o v3);go_wp2_with fail;refine HC.o.mono ?_;rintro e v6 ⟨rfl,hbv6⟩;have HBv6:=zT HBv3 hbv6;have HCK6:Hid (World.cell? v6 ⟨kb,j,none⟩=some (.string ks)):=zh ((hbv6.cell (p:=⟨kb,j,none⟩) HLT.o).trans HCK.o);clear hbv6 HC HDV;go_wp2_with fail;refine⟨_,fun W hW=>hW,⟨HBv6.o,HCK6.o⟩,?_⟩
 repeat ((first|(refine planV_on _ (by rfl) (fun W hW=>by (obtain⟨hW1,hk⟩:=hW;obtain⟨x0,x1,x2,x3,x4,x5,x6,x7⟩:=HSC.o W hW1;go_simp;try (first|with_reducible rfl|rw[if_neg (by omega)]))) ?_)|(refine planV_off (by rfl) ?_));simp only[Act.put,xq1,xq2,xq3])
 refine planV_turn ?_;have HC:=zh (HSX.o v6);go_wp2_with fail;refine HC.o.mono ?_;rintro e v7 ⟨rfl,hv⟩;obtain rfl:=hv.symm;clear HC;go_wp2_with fail;refine⟨_,fun W hW=>hW,⟨HBv6.o,HCK6.o⟩,?_⟩
 repeat ((first|(refine planV_on _ (by rfl) (fun W hW=>by (obtain⟨hW1,hk⟩:=hW;obtain⟨x0,x1,x2,x3,x4,x5,x6,x7⟩:=HSC.o W hW1;go_simp;try (first|with_reducible rfl|rw[if_neg (by omega)]))) ?_)|(refine planV_off (by rfl) ?_));simp only[Act.put,xq1,xq2,xq3])
 refine planV_done ?_;go_wp2_with fail;go_ret;exact⟨congrArg (fun s=>Ending.returned (Value.string s)) HF.o,HB1.o.trans (HBv6.o.mono HB1.o.size)⟩
end Go.Proofs.YtphmhbcimhlcjaaGreatDoor
