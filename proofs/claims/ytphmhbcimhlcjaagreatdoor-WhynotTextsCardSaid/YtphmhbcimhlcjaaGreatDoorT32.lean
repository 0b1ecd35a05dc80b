/- A part of the joined base. -/
import Derived.Test.YtphmhbcimhlcjaaGreatDoorT31
set_option linter.unusedVariables false
set_option maxHeartbeats 8000000
set_option maxRecDepth 100000
namespace Go.Proofs.YtphmhbcimhlcjaaGreatDoor
open Go.Shelf Go.RowKit Go.Maps
open Ct (It St it0 st0 atP)
open Ru (Fz fzA fzX Nd holdsR)
@[go_sem] theorem Zt5 (ats : Array TypeId) (ty : TypeId) (k k2 : IntKind) (a b : Int) : Builtin.max_ ats ty #[.int k a, .int k2 b] = pure (.int k (if b > a then b else a)) := rfl
theorem Zch {w:World}{wb ct cr:Nat}{c:Cfg}{E:List Ev}(h:WrAt w wb ct cr c E)(hlen:E.length<=1000):Calls Tryz.prog 13 #[.pointer (some ⟨wb,0,none⟩)] w fun e w'=>∃A cp,e = .returned (.slice A E.length cp)/\w'.ownsRow w.heap.size 66 8 (.slice A E.length cp) E.length (E.flatMap evC)/\Below w.heap.size w w':=by
 obtain⟨A,cp,hc,hr,hn⟩:=h.row;have HC:=zh (Zf7 w w.heap.size A E E.length cp rfl hr (zr _) hn (by omega));have hlt:=h.lt;obtain⟨n,hnn⟩:=zG (E.length);rw[hnn]at hc HC ⊢;clear h hr hn hnn;go_enter Tryz.func13,Tryz.ntmps13;go_wp2_with fail;refine HC.o.mono ?_;rintro e w1 ⟨v,rfl,ho,hb1⟩;obtain⟨A1,c1,rfl⟩:=Zbh ho;clear HC;go_wp2_with fail;go_ret;exact⟨A1,c1,rfl,ho,hb1⟩
def qA (q:Option Addr)(p i:ByteArray)(now:Int):Value:=.agg #[.pointer q,.string p,.string i,.int .i64 now]
def qArr (q:Option Addr)(p i:ByteArray)(now:Int):Array Value:=#[.pointer q,.string p,.string i,.int .i64 now]
theorem Zoh {E:List Ev}(hs:SortedE E){k:Nat}{x:Ev}(hk:E.length=k+1)(hx:E[k]? = some x)(now:Int):lateP E now=if x.tick > now then x.tick else now:=by
 have h1:=Zhe E now;have hm:x∈E:=List.mem_of_getElem? hx
 have hle:∀e∈E,e.tick<=x.tick:=fun e he=>by
  obtain⟨j,hj⟩:=List.mem_iff_getElem?.1 he;have hjl:=(List.getElem?_eq_some_iff.1 hj).1;by_cases hjk:j=k
  ·subst hjk;rw[hx]at hj;cases hj;exact Int.le_refl _
  ·have hp:=List.pairwise_iff_getElem.1 hs j k hjl (by omega) (by omega);rw[(List.getElem?_eq_some_iff.1 hj).2,(List.getElem?_eq_some_iff.1 hx).2]at hp;exact Zn5 hp
 have h2:=h1.2.1 x hm;by_cases hc:x.tick > now
 ·rw[if_pos hc];rcases h1.2.2 with h3|⟨e,he,h3⟩
  ·omega
  ·have:=hle e he;omega
 ·rw[if_neg hc];rcases h1.2.2 with h3|⟨e,he,h3⟩
  ·exact h3
  ·have:=hle e he;omega
theorem Zk8 {w:World}{wb ct cr:Nat}{c:Cfg}{E:List Ev}(h:WrAt w wb ct cr c E)(hlen:E.length<=1000)(hs:SortedE E)(q:Option Addr)(p i:ByteArray)(now:Int):Calls Tryz.prog 125 #[qA q p i now,.pointer (some ⟨wb,0,none⟩)] w fun e w'=>e = .returned (.int .i64 (lateP E now))/\Below w.heap.size w w':=by
 obtain⟨w1,hw1⟩:=zG (w.alloc (.cells (qArr q p i now) 81));have HX1:Hid (Blk w1 w.heap.size 81 (qArr q p i now)):=zB hw1;have HB1:=zA hw1;have HE:=zh (Zch (h.below HB1.o) hlen);have HS:=zh hs;unfold qA;unfold qArr at hw1;obtain⟨n,hn⟩:=zG (E.length);have HN:=zh hn;rw[hn]at HE hlen;clear h hs hn;go_enter Tryz.func125,Tryz.ntmps125;go_wp2_with fail;refine HE.o.mono ?_;rintro e w2 ⟨A2,c2,rfl,ho,hb2⟩;have HO:=zh ho;have HB2:=zT HB1 hb2;have HX2:Hid (Blk w2 w.heap.size 81 (qArr q p i now)):=zX HX1 hb2;have x3:w2.cell? ⟨w.heap.size,3,none⟩=some (.int .i64 now):=HX2.o.cell 3;clear ho hb2 HE hw1;by_cases h0:n=0
 ·subst h0;have hz:((((0:Nat):Int)) == 0)=true:=rfl;have HF:Hid (lateP E now=now):=zh (by rw[List.length_eq_zero_iff.1 HN.o];rfl);go_wp2_with fail;go_ret;exact⟨by rw[HF.o];rfl,HB2.o⟩
 ·obtain⟨m,hm⟩:∃m,n=m+1:=⟨n - 1,by omega⟩
  obtain⟨x,hx⟩:∃x,E[m]? = some x:=⟨_,List.getElem?_eq_getElem (by rw[HN.o];omega)⟩
  have HF:=zh (Zoh HS.o (by rw[HN.o,hm]) hx now);obtain⟨g,cap,hv,hg,hlt⟩:=HO.o.form (by omega);injection hv with hv1 _ hv2;subst hv1;have c2:World.cell? w2 ⟨g,m*8+2,none⟩=some (.int .i64 x.tick):=by
   have h:=HO.o.cells (g:=g) rfl (m*8+2) (.int .i64 x.tick) (Zbi evC 8 Za7 _ m 2 x hx (by omega))
   rwa [at_add,Nat.zero_add]at h
  have hz:((n:Int) == 0)=false:=by rw[Bool.eq_false_iff];intro e;have:=beq_iff_eq.1 e;omega
  have hwr:IntKind.i64.wrap ((n:Int) - 1)=(m:Int):=by rw[show (n:Int) - 1=(m:Int) by omega];exact IntWalk.i64_in _ (by omega)
  have hn8:(m:Int)<(n:Int):=by omega
  have hn9:(0:Int)<=(m:Int):=by omega
  have HSC:Hid (∀W,Below w2.heap.size w2 W->World.cell? W ⟨w.heap.size,3,none⟩=some (.int .i64 now)/\World.cell? W ⟨g,m*8+2,none⟩=some (.int .i64 x.tick)):=zh (fun W hb=>⟨(hb.cell (p:=⟨w.heap.size,3,none⟩) HX2.o.lt).trans x3,(hb.cell (p:=⟨g,m*8+2,none⟩) hlt).trans c2⟩);clear hm;clear x3 c2 hx hg hlt;go_upto_region 4 with fail;refine Zar (fun W=>Below w2.heap.size w2 W) [(0,false),(1,false),(2,false),(3,false),(4,false),(5,false),(6,false),(7,false),(8,false),(9,true),(10,false)] (by kernel_rfl) (by kernel_rfl) (below_drew (Below.refl _ _)) ?_;simp only[planL,xq4,xq5];obtain⟨wd,hwd⟩:=zG (w2.drew);have HBD:Hid (Below w.heap.size w wd):=zh (by rw[<-hwd];exact below_drew HB2.o);have HB3:=zD hwd;rw[hwd];clear hwd;by_cases hc:x.tick > now
  ·have HF2:Hid (lateP E now=x.tick):=zh (by rw[HF.o,if_pos hc])
   repeat ((first|(refine Zaf _ (by rfl) (fun W hW=>by (obtain⟨x3,c2⟩:=HSC.o W hW;go_simp;try with_reducible rfl)) ?_)|(refine Zac (by rfl) ?_));simp only[Act.put,xq1,xq2,xq3])
   refine Zae ?_;go_wp2_with fail;refine⟨HB3.o,?_⟩
   repeat ((first|(refine Zaf _ (by rfl) (fun W hW=>by (obtain⟨x3,c2⟩:=HSC.o W hW;go_simp;try with_reducible rfl)) ?_)|(refine Zac (by rfl) ?_));simp only[Act.put,xq1,xq2,xq3])
   refine Zah ?_;go_wp2_with fail;go_ret;exact⟨by rw[HF2.o];rfl,HBD.o⟩
  ·have HF2:Hid (lateP E now=now):=zh (by rw[HF.o,if_neg hc])
   repeat ((first|(refine Zaf _ (by rfl) (fun W hW=>by (obtain⟨x3,c2⟩:=HSC.o W hW;go_simp;try with_reducible rfl)) ?_)|(refine Zac (by rfl) ?_));simp only[Act.put,xq1,xq2,xq3])
   refine Zae ?_;go_wp2_with fail;refine⟨HB3.o,?_⟩
   repeat ((first|(refine Zaf _ (by rfl) (fun W hW=>by (obtain⟨x3,c2⟩:=HSC.o W hW;go_simp;try with_reducible rfl)) ?_)|(refine Zac (by rfl) ?_));simp only[Act.put,xq1,xq2,xq3])
   refine Zah ?_;go_wp2_with fail;go_ret;exact⟨by rw[HF2.o];rfl,HBD.o⟩
end Go.Proofs.YtphmhbcimhlcjaaGreatDoor
namespace Go.Proofs.YtphmhbcimhlcjaaGreatDoor
open Go.Shelf Go.RowKit Go.Maps
theorem zz_list:([122,122,122,122,122,122,122,122,122,122,122,122,122,122,122,122,122,122,122,122,122,122,122,122]:List UInt8)=zzS.toList:=by rw[Lib.toList_data];rfl
theorem Zoi {E:List Ev}{k:Nat}{x:Ev}(h:E[k]? = some x):grtN (E.take (k+1))=if x.src=zzS/\grtN (E.take k)<x.num then x.num else grtN (E.take k):=by rw[Zbd h,Zfi]
def setZ (e:Ev)(n:Int):Ev:=⟨zzS,n,e.tick,e.kind,e.person,e.item,e.value,e.text⟩
def midZ (g:Int)(L:List Ev)(j:Nat):List Ev:=numL g 0 (L.take j)++L.drop j
theorem Zoj (g:Int)(L:List Ev):midZ g L 0=L:=rfl
theorem Zq2 (g:Int)(L:List Ev):midZ g L L.length=numL g 0 L:=by
 unfold midZ;rw[List.take_length,List.drop_length,List.append_nil]
theorem Zik (g:Int):∀(l:List Ev) (k:Nat) (e:Ev),numL g k (l++[e])=numL g k l++[setZ e (g+1+(k+l.length:Nat))]
 | [],k,e=>rfl
 | a::l,k,e=>by
  have h:=Zik g l (k+1) e;show _::numL g (k+1) (l++[e])=_::(numL g (k+1) l++_);rw[h,show k+1+l.length=k+(a::l).length by simp;omega]
theorem Zjk {g:Int}{L:List Ev}{j:Nat}{e:Ev}(h:L[j]? = some e):(midZ g L j)[j]? = some e:=by
 have hl:=(List.getElem?_eq_some_iff.1 h).1;unfold midZ;rw[List.getElem?_append_right (by rw[Zbz,List.length_take];omega),Zbz,List.length_take,Nat.min_eq_left (by omega),Nat.sub_self,List.getElem?_drop,Nat.add_zero,h]
theorem Zq3 {g:Int}{L:List Ev}{j:Nat}{e:Ev}(h:L[j]? = some e):(midZ g L j).set j (setZ e (g+1+j))=midZ g L (j+1):=by
 have hl:=(List.getElem?_eq_some_iff.1 h).1;have hd:L.drop j=e::L.drop (j+1):=by rw[List.drop_eq_getElem_cons hl,(List.getElem?_eq_some_iff.1 h).2]
 unfold midZ;have hlen:(numL g 0 (L.take j)).length=j:=by rw[Zbz,List.length_take];omega
 rw[List.set_append_right _ _ (by omega),hlen,Nat.sub_self,hd,xq2,Zbd h,Zik,List.append_assoc,List.length_take,Nat.min_eq_left (by omega),Nat.zero_add]
 rfl
theorem Zok {l:List Ev}{j:Nat}{e:Ev}(h:l[j]? = some e)(s:ByteArray)(n:Int):((l.flatMap evC).set (j*8) (.string s)).set (j*8+1) (.int .i64 n)=(l.set j ⟨s,n,e.tick,e.kind,e.person,e.item,e.value,e.text⟩).flatMap evC:=by
 induction l generalizing j with
 | nil=>simp at h
 | cons a l ih=>
  cases j with
  | zero=>
   simp at h;subst h;simp[evC]
  | succ j=>
   have h':=ih (j:=j) (by simpa using h);rw[List.flatMap_cons,xq3,List.flatMap_cons,<-h'];rw[List.set_append_right _ _ (by rw[Za7];omega),List.set_append_right _ _ (by rw[Za7];omega),Za7,show (j+1)*8 - 8=j*8 by omega,show (j+1)*8+1 - 8=j*8+1 by omega]
theorem Zl7 {w:World}{wb ct cr:Nat}{c:Cfg}{E:List Ev}(h:WrAt w wb ct cr c E)(hm:∀e∈E,mayB e=true)(hlen:E.length<=1000)(base:Nat)(A:Option Addr)(cs:List Ev)(n cp:Nat)(hn:cs.length=n)(hl:w.ownsRow base 66 8 (.slice A n cp) n (cs.flatMap evC))(hB:base<=w.heap.size)(hb:n<=1000) :
  Calls Tryz.prog 80 #[.pointer (some ⟨wb,0,none⟩),.slice A n cp] w fun e w'=>∃A' c' k,e = .returned (.slice A' k c')/\(cured E cs).length=k/\w'.ownsRow base 66 8 (.slice A' k c') k ((cured E cs).flatMap evC)/\Below base w w':=by
 have HE:=zh (Zch h hlen);have HGR:=zh (Zdx E hm);have HN:=zh hn;have HO:=zh hl;obtain⟨m,hmm⟩:=zG (E.length);have HM:=zh hmm;rw[hmm]at HE hlen;clear h hm hn hl hmm;go_enter Tryz.func80,Tryz.ntmps80;go_wp2_with fail;refine HE.o.mono ?_;rintro e w1 ⟨A1,c1,rfl,ho1,hb1⟩;have HO1:=zh ho1;have HB1:Hid (Below base w w1):=zh (hb1.mono hB);have HW1:=zh hb1;have hz01:=hb1.size;clear ho1 hb1 HE;go_wp2_with fail;go_loopw [5,12] (fun gv iv wr=>∃k:Nat,k<=m/\iv = .int .i64 k/\gv = .int .i64 (grtN (E.take k))/\Hid (Below w1.heap.size w1 wr)) (fun _ iv _=>m - (intOf iv).toNat)
 case atStart=>exact⟨0,Nat.zero_le _,rfl,rfl,zh (Below.refl _ _)⟩
 case round=>
  obtain⟨k,hk,rfl,rfl,hbw⟩:=hrel;have hwz:=hbw.o.size;by_cases hlt:k<m
  ·obtain⟨e,he⟩:∃e,E[k]? = some e:=⟨E[k]'(by rw[HM.o];exact hlt),List.getElem?_eq_getElem _⟩
   obtain⟨g,o,rfl,hgB,hcl⟩:=EvsAt.at (w:=w1) (B:=w1.heap.size) (A:=A1) (l:=E) (by unfold EvsAt;rw[HM.o];exact RowIn.of_own HO1.o) (by rw[HM.o];omega);obtain⟨p0,p1,p2,p3,p4,p5,p6,p7⟩:EvAt wr g (o+k*8) e:=(hcl k e he).keep (fun j=>hbw.o.cell (p:=⟨g,j,none⟩) hgB);have hk8:(k:Int)<(m:Int):=by omega
   have hk9:(0:Int)<=(k:Int):=by omega
   obtain⟨w3,hw3⟩:=zG (wr.alloc (.cells (evArr e) 66));have HX3:Hid (Blk w3 wr.heap.size 66 (evArr e)):=zB hw3;have HB3:Hid (Below w1.heap.size w1 w3):=zh (by rw[<-hw3];exact hbw.o.alloc hwz _);have HGT:=zh (Zoi he);unfold evArr at hw3;obtain⟨q0,q1,-,-,-,-,-,-⟩:=zC8 HX3.o;clear hcl he;obtain⟨g0,hg0⟩:=zG (grtN (E.take k));rw[hg0]at HGT ⊢;by_cases hs:e.src=zzS
   ·have z1:(e.src.toList == [122,122,122,122,122,122,122,122,122,122,122,122,122,122,122,122,122,122,122,122,122,122,122,122])=true:=by rw[zz_list];exact str_t hs
    by_cases hgt:e.num > g0
    ·have HG2:Hid (grtN (E.take (k+1))=e.num):=zh (by rw[HGT.o,if_pos ⟨hs,hgt⟩]);clear hs;go_wp2_with fail;go_roundw
     case rel=>exact⟨k+1,by omega,by go_num,by rw[HG2.o],HB3⟩
     case measure=>simp[intOf];omega
    ·have HG2:Hid (grtN (E.take (k+1))=g0):=zh (by rw[HGT.o,if_neg (fun h=>hgt h.2)]);clear hs;go_wp2_with fail;go_roundw
     case rel=>exact⟨k+1,by omega,by go_num,by rw[HG2.o],HB3⟩
     case measure=>simp[intOf];omega
   ·have z1:(e.src.toList == [122,122,122,122,122,122,122,122,122,122,122,122,122,122,122,122,122,122,122,122,122,122,122,122])=false:=by rw[zz_list];exact str_f hs
    have HG2:Hid (grtN (E.take (k+1))=g0):=zh (by rw[HGT.o,if_neg (fun h=>hs h.1)]);clear hs;go_wp2_with fail;go_roundw
    case rel=>exact⟨k+1,by omega,by go_num,by rw[HG2.o],HB3⟩
    case measure=>simp[intOf];omega
  ·obtain rfl:m=k:=by omega
   rw[show E.take m=E by rw[<-HM.o,List.take_length]];obtain⟨wo,rfl⟩:=zH wr;have HWO:Hid (Below w.heap.size w wo):=zh (HW1.o.trans (hbw.o.mono hz01));have HOO:Hid (wo.ownsRow base 66 8 (.slice A n cp) n (cs.flatMap evC)):=zh (Ru.Za9 HO.o HWO.o);have HBO:Hid (Below base w wo):=zh (HWO.o.mono hB);have hg1:=HGR.o.1.1;have hg2:=HGR.o.1.2;obtain⟨g0,hg0⟩:=zG (grtN E);have HG0:=zh hg0;rw[hg0]at hg1 hg2 ⊢;have hwr:IntKind.i64.wrap ((1099511627776:Int) - g0)=1099511627776 - g0:=IntWalk.i64_in _ (by omega);by_cases hov:1099511627776 - g0<(n:Int)
   ·have HC:Hid (cured E cs = []):=zh (by unfold cured;rw[if_pos (by rw[HG0.o,HN.o];omega)]);clear hg0;go_wp2_with fail;go_ret;exact⟨none,0,0,rfl,by rw[HC.o];rfl,by rw[HC.o];exact own_nil _ _ _ _,HBO.o⟩
   ·have HC:Hid (cured E cs=numL g0 0 cs):=zh (by unfold cured;rw[if_neg (by rw[HG0.o,HN.o];omega),HG0.o]);have dov:decide (1099511627776 - g0<(n:Int))=false:=decide_eq_false hov;clear hg0;go_wp2_with fail;go_loopw [31] (fun iv wr=>∃j:Nat,j<=n/\iv = .int .i64 j/\Hid (wr.ownsRow base 66 8 (.slice A n cp) n ((midZ g0 cs j).flatMap evC))/\Hid (Below base w wr)) (fun iv _=>n - (intOf iv).toNat)
    case atStart=>exact⟨0,Nat.zero_le _,rfl,zh (by rw[Zoj];exact HOO.o),HBO⟩
    case round=>
     clear HOO HBO HWO hbw;obtain⟨j,hj,rfl,ho,hbq⟩:=hrel;by_cases hlt2:j<n
     ·obtain⟨e,he⟩:∃e,cs[j]? = some e:=⟨cs[j]'(by rw[HN.o];exact hlt2),List.getElem?_eq_getElem _⟩
      have HEJ:=zh he;obtain⟨g,cap,hv,hgb,hgl⟩:=ho.o.form (by omega);injection hv with hv1 _ hv2;subst hv1;have c0:World.cell? wr ⟨g,j*8,none⟩=some (.string e.src):=by
       have h:=ho.o.cells (g:=g) rfl (j*8) (.string e.src) (Zbi evC 8 Za7 _ j 0 e (Zjk he) (by omega))
       rwa [at_add,Nat.zero_add]at h
      have c1:World.cell? wr ⟨g,j*8+1,none⟩=some (.int .i64 e.num):=by
       have h:=ho.o.cells (g:=g) rfl (j*8+1) (.int .i64 e.num) (Zbi evC 8 Za7 _ j 1 e (Zjk he) (by omega))
       rwa [at_add,Nat.zero_add]at h
      have f0:World.frozen? wr ⟨g,j*8,none⟩=false:=ho.o.frozenAt _;have f1:World.frozen? wr ⟨g,j*8+1,none⟩=false:=ho.o.frozenAt _;have HST:=zh (ho.o.stored (j*8) (.string zzS));have HST2:=zh (HST.o.1.stored (j*8+1) (.int .i64 (g0+1+(j:Int))));have HGB:Hid (base<=g):=zh hgb;have hj8:(j:Int)<(n:Int):=by omega
      have hj9:(0:Int)<=(j:Int):=by omega
      have hw1:IntKind.i64.wrap (g0+1)=g0+1:=IntWalk.i64_in _ (by omega);have hw2:IntKind.i64.wrap (g0+1+(j:Int))=g0+1+(j:Int):=IntWalk.i64_in _ (by omega);clear he hgb hgl;go_wp2_with fail;go_roundw
      case rel=>
       refine⟨j+1,by omega,by go_num,zh ?_,zh ((hbq.o.setCell (p:=⟨g,j*8,none⟩) HGB.o _).setCell (p:=⟨g,j*8+1,none⟩) HGB.o _)⟩;have h:=HST2.o.1;rw[Zok (Zjk HEJ.o),show (⟨zzS,g0+1+(j:Int),e.tick,e.kind,e.person,e.item,e.value,e.text⟩:Ev)=setZ e (g0+1+j) from rfl,Zq3 HEJ.o]at h;exact h
      case measure=>simp[intOf];omega
     ·obtain rfl:n=j:=by omega
      go_wp2_with fail;go_ret;have hlen2:(cured E cs).length=n:=by rw[HC.o,Zbz,HN.o]
      refine⟨A,cp,n,rfl,hlen2,?_,hbq.o⟩;have h:=ho.o;rw[<-HN.o,Zq2,<-HC.o,HN.o]at h;exact h
end Go.Proofs.YtphmhbcimhlcjaaGreatDoor
