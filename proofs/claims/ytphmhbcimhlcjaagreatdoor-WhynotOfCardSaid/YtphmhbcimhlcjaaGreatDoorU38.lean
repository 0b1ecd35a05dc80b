/- A part of the joined base. -/
import Derived.Test.YtphmhbcimhlcjaaGreatDoorU37
set_option linter.unusedVariables false
set_option maxHeartbeats 8000000
set_option maxRecDepth 100000
namespace Go.Proofs.YtphmhbcimhlcjaaGreatDoor
open Go.Shelf Go.RowKit Go.Maps
open Ct (It St it0 st0 atP takesB catB stepSt rowOf uptoP ofN rowStep Zc3 itA toldP)
theorem behind_any (s:ByteArray)(w:World)(hs:s.size<=281474976710656) :
  Calls Tryz.prog 94 #[.string s] w fun e w'=>e = .returned (.string (restP s))/\w=w':=by
 go_enter Tryz.func94,Tryz.ntmps94;go_wp2;go_loop [3] (fun i=>∃k:Nat,k<=s.size/\i = .int .i64 k/\Hid (∀j b,j<k->s.data.toList[j]? = some b->b≠59)) (fun i=>s.size - (intOf i).toNat)
 case atStart=>exact⟨0,Nat.zero_le _,rfl,zh (fun j b h=>by omega)⟩
 case round=>
  obtain⟨k,hk,rfl,hno⟩:=hrel;by_cases hlt:k<s.size
  ·have HB:Hid (s.data.toList[k]? = some (s[k]'hlt)):=zh (by
    rw[List.getElem?_eq_getElem (by simpa using hlt)]
    rfl)
   by_cases hq:(s[k]'hlt)=59
   ·have HQ:=zh hq;have q1:((s[k]'hlt).toNat:Int)=59:=by rw[hq];rfl
    have HC:=zh (Zjh (s:=s) (k:=k) ⟨by rw[HB.o,HQ.o],hno.o⟩).2.1;have hk8:(0:Int)<=(k:Int)+1:=by omega
    have hk9:(k:Int)+1<=(s.size:Int):=by omega
    clear hq;go_wp2
    all_goals first
     | (go_ret;exact⟨by rw[HC.o];rfl,rfl⟩)
     | (exfalso;simp_all)
   ·have HQ:=zh hq
    have q1:¬((s[k]'hlt).toNat:Int)=59:=fun e=>hq (by
     apply UInt8.toNat_inj.1;show (s[k]'hlt).toNat=59;omega)
    clear hq;go_wp2
    all_goals first
     | (go_round
        case rel=>
         refine⟨k+1,by omega,by go_num,zh (fun j b hj hb=>?_)⟩;by_cases e:j=k
         ·subst e;rw[HB.o]at hb;cases hb;exact HQ.o
         ·exact hno.o j b (by omega) hb
        case measure=>simp[intOf];omega)
     | (exfalso;simp_all)
  ·have HC:Hid (restP s=⟨#[]⟩):=zh (Zg9 (fun j b hb=>hno.o j b (by
    have:=(List.getElem?_eq_some_iff.1 hb).1;simp at this;omega) hb)).2.1
   go_wp2;go_ret;exact⟨by rw[HC.o];rfl,rfl⟩
theorem stepSt_name (s:St)(e:Ev):(stepSt s e).item.name=s.item.name:=by unfold stepSt;split;rfl;split <;> rfl
def rst (l:List Ev)(nm:ByteArray)(t:Int):Option St:=(rowOf (l.filter fun e=>decide (e.tick<=t)) nm).getLast?
theorem rst_snoc (l:List Ev)(x:Ev)(nm:ByteArray)(t:Int):rst (l++[x]) nm t=if x.item=nm/\x.tick<=t then some (stepSt ((rst l nm t).getD (st0 nm)) x) else rst l nm t:=by
 unfold rst;rw[List.filter_append];by_cases h1:x.tick<=t
 ·rw[List.filter_cons_of_pos (by simpa using h1),List.filter_nil,Zc3];by_cases h2:x.item=nm
  ·rw[if_pos h2,if_pos ⟨h2,h1⟩,h2.symm];unfold rowStep;rw[List.getLast?_concat]
  ·rw[if_neg h2,if_neg (fun h=>h2 h.1)]
 ·rw[List.filter_cons_of_neg (by simpa using h1),List.filter_nil,List.append_nil,if_neg (fun h=>h1 h.2)]
theorem fold_name (n:ByteArray)(l:List Ev)(h:∀e∈l,e.item=n):∀r:List St,(∀s∈r,s.item.name=n)->∀s∈l.foldl rowStep r,s.item.name=n:=by
 induction l with
 | nil=>intro r hr;exact hr
 | cons e l ih=>
  intro r hr;rw[List.foldl_cons];refine ih (fun x hx=>h x (List.mem_cons_of_mem _ hx)) _ (fun s hs=>?_);unfold rowStep at hs;rcases List.mem_append.1 hs with hs|hs
  ·exact hr s hs
  ·obtain rfl:s=_:=by simpa using hs
   rw[stepSt_name];cases hl:r.getLast? with
   | none=>exact h e (by simp)
   | some y=>exact hr y (List.mem_of_getLast? hl)
theorem rst_name {l:List Ev}{nm:ByteArray}{t:Int}{s:St}(h:rst l nm t=some s):s.item.name=nm:=by
 unfold rst at h;exact fold_name nm _ (fun e he=>of_decide_eq_true (List.mem_filter.1 he).2) [] (fun s hs=>by cases hs) s (List.mem_of_getLast? h)
def rx (o:Option St):It:=(o.map (·.item)).getD it0
def rb (o:Option St):Bool:=(o.map (·.isborn)).getD false
theorem set_name {l:List Ev}{nm:ByteArray}{t:Int}:(itArr (rx (rst l nm t))).setIfInBounds 0 (.string nm)=itArr ((rst l nm t).getD (st0 nm)).item:=by
 cases h:rst l nm t with
 | none=>simp[rx,itArr,it0,st0]
 | some s=>
  have:=rst_name h;simp[rx,itArr,this]
theorem rb_born (o:Option St)(nm:ByteArray):rb o=(o.getD (st0 nm)).isborn:=by
 cases o <;> rfl
theorem rstep12 {s:St}{x:Ev}(h:x.kind=12):(itArr s.item).setIfInBounds 3 (.int .i64 x.value)=itArr (stepSt s x).item:=by
 simp[itArr,stepSt,h]
theorem rstep13 {s:St}{x:Ev}(h:x.kind=13):(itArr s.item).setIfInBounds 6 (.bool false)=itArr (stepSt s x).item:=by
 simp[itArr,stepSt,h]
theorem rstep11t {s:St}{x:Ev}(h:x.kind=11)(hb:s.isborn=true):((((itArr s.item).setIfInBounds 6 (.bool true)).setIfInBounds 1 (.string (headP x.text))).setIfInBounds 2 (.string (restP x.text))).setIfInBounds 4 (.int .i64 x.value)=itArr (stepSt s x).item:=by
 simp[itArr,stepSt,h,hb]
theorem rstep11f {s:St}{x:Ev}(h:x.kind=11)(hb:s.isborn=false):(((((itArr s.item).setIfInBounds 6 (.bool true)).setIfInBounds 1 (.string (headP x.text))).setIfInBounds 2 (.string (restP x.text))).setIfInBounds 4 (.int .i64 x.value)).setIfInBounds 5 (.int .i64 x.tick)=itArr (stepSt s x).item:=by
 simp[itArr,stepSt,h,hb]
theorem step_born {s:St}{x:Ev}:(stepSt s x).isborn=if x.kind=11 then true else s.isborn:=by
 unfold stepSt;split
 ·rfl
 ·split <;> rfl
theorem cell_drew' {w:World}{p:Addr}{u:Value}(h:w.cell? p=some u):w.drew.cell? p=some u:=h
def rtoldP (o:Option St):Value:=.tuple #[itA (rx o),.bool o.isSome]
theorem refat_any (w:World)(B:Nat)(A:Option Addr)(l:List Ev)(n c:Nat)(nm:ByteArray)(t:Int)(hn:l.length=n)(hl:EvsAt w B A l)(hB:B<=w.heap.size)(hb:n<=1000000)(hsh:∀e∈l,EvSh e)(hkd:∀e∈l,e.kind=11\/e.kind=12\/e.kind=13) :
  Calls Tryz.prog 48 #[.slice A n c,.string nm,.int .i64 t] w fun e w'=>e = .returned (rtoldP (rst l nm t))/\Below w.heap.size w w':=by
 have HN:=zh hn;have HL:=zh hl;have HS:=zh hsh;have HKD:=zh hkd;clear hn hl hsh hkd;obtain⟨w1,hw1⟩:=zG (w.alloc (.cells (itArr it0) 110));have HZ1:Hid (w1.heap.size=w.heap.size+1):=zh (by rw[<-hw1];simp);unfold itArr it0 at hw1;dsimp only at hw1;go_enter Tryz.func48,Tryz.ntmps48;go_wp2_with fail;obtain⟨w2,hw2⟩:=zG (w1.alloc (.cells (itArr it0) 110));have HX2:Hid (Blk w2 w1.heap.size 110 (itArr it0)):=zB hw2;have HR2:Hid (Blk w2 w.heap.size 110 (itArr it0)):=zh (by rw[<-hw2];exact Blk.alloc (by rw[<-hw1];exact Blk.new _ _ _) _);have HB2:Hid (Below w.heap.size w w2):=zh (by rw[<-hw2,<-hw1];exact ((Below.refl _ _).alloc (zr _) _).alloc (by simp) _);have HZ2:Hid (w2.heap.size=w.heap.size+2):=zh (by rw[<-hw2,World.size_alloc,HZ1.o]);unfold itArr it0 at hw2;dsimp only at hw2
 (try rw[hw2])
 generalize hxb:w1.heap.size=xb at *;obtain rfl:xb=w.heap.size+1:=HZ1.o;clear hw1 hw2 hxb;go_loopw [9,10,11] (fun th bn i wr=>∃k:Nat,k<=n/\i = .int .i64 k/\th = .bool (rst (l.take k) nm t).isSome/\bn = .bool (rb (rst (l.take k) nm t))/\Hid (Blk wr (w.heap.size+1) 110 (itArr (rx (rst (l.take k) nm t))))/\Hid (Blk wr w.heap.size 110 (itArr it0))/\Hid (Below w.heap.size w wr)) (fun _ _ i _=>n - (intOf i).toNat)
 case atStart=>exact⟨0,Nat.zero_le _,rfl,rfl,rfl,HX2,HR2,HB2⟩
 case round=>
  obtain⟨k,hk,rfl,rfl,rfl,hbx,hbr,hbw⟩:=hrel;have hxl:=hbx.o.lt;by_cases hlt:k<n
  ·obtain⟨x,hx⟩:∃x,l[k]? = some x:=⟨l[k]'(by rw[HN.o];exact hlt),List.getElem?_eq_getElem _⟩
   obtain⟨g,o,rfl,hgB,hcl⟩:=HL.o.at (by rw[HN.o];omega);obtain⟨c0,c1,c2,c3,c4,c5,c6,c7⟩:EvAt wr g (o+k*8) x:=(hcl k x hx).keep (fun j=>hbw.o.cell (p:=⟨g,j,none⟩) (by show g<w.heap.size;omega));have hxt:x.text.size<=281474976710656:=by have:=(HS.o x (List.mem_of_getElem? hx)).2.2.2;omega
   have HXK:=zh (HKD.o x (List.mem_of_getElem? hx));have htk:l.take (k+1)=l.take k++[x]:=by rw[List.take_add_one,hx];rfl
   have HST:Hid (rst (l.take (k+1)) nm t=if x.item=nm/\x.tick<=t then some (stepSt ((rst (l.take k) nm t).getD (st0 nm)) x) else rst (l.take k) nm t):=zh (by rw[htk,rst_snoc]);have HSN:Hid ((itArr (rx (rst (l.take k) nm t))).setIfInBounds 0 (.string nm)=itArr ((rst (l.take k) nm t).getD (st0 nm)).item):=zh set_name;have hk8:(k:Int)<(n:Int):=by omega
   have hk9:(0:Int)<=(k:Int):=by omega
   clear hcl hx htk;generalize rst (l.take k) nm t=o1 at *;obtain⟨w5,hw5⟩:=zG (wr.alloc (.cells #[.string x.src,.int .i64 x.num,.int .i64 x.tick,.int .i64 x.kind,.string x.person,.string x.item,.int .i64 x.value,.string x.text] 66));have HE5:Hid (Blk w5 wr.heap.size 66 (evArr x)):=zB hw5;have HX5:Hid (Blk w5 (w.heap.size+1) 110 (itArr (rx o1))):=zh (by rw[<-hw5];exact hbx.o.alloc _);have HR5:Hid (Blk w5 w.heap.size 110 (itArr it0)):=zh (by rw[<-hw5];exact hbr.o.alloc _);have HB5:Hid (Below w.heap.size w w5):=zh (by rw[<-hw5];exact hbw.o.alloc hbw.o.size _);have hel:wr.heap.size<w5.heap.size:=HE5.o.lt;obtain⟨-,-,e2,e3,-,e5,e6,e7⟩:=zC8 HE5.o;obtain⟨x0,x1,x2,x3,x4,x5,x6⟩:=zC7 HX5.o;have f0:=HX5.o.frozen 0;have f1:=HX5.o.frozen 1;have f2:=HX5.o.frozen 2;have f3:=HX5.o.frozen 3;have f4:=HX5.o.frozen 4;have f5:=HX5.o.frozen 5;have f6:=HX5.o.frozen 6;have hne:wr.heap.size≠w.heap.size+1:=by omega
   have hne2:w.heap.size+1≠wr.heap.size:=by omega
   by_cases hi:x.item=nm
   rotate_left
   ·have HO:Hid (rst (l.take (k+1)) nm t=o1):=zh (by rw[HST.o,if_neg (fun h=>hi h.1)]);have q1:(x.item.toList == nm.toList)=false:=Bool.eq_false_iff.2 (fun e=>hi ((Zbw x.item nm).1 e));have q2:(x.item.toList != nm.toList)=true:=by unfold bne;rw[q1];rfl
    clear hi;go_wp2_with fail;go_roundw
    case rel=>exact⟨k+1,by omega,by go_num,by rw[HO.o],by rw[HO.o],by rw[HO.o];exact HX5,HR5,HB5⟩
    case measure=>simp[intOf];omega
   by_cases hti:x.tick<=t
   rotate_left
   ·have HO:Hid (rst (l.take (k+1)) nm t=o1):=zh (by rw[HST.o,if_neg (fun h=>hti h.2)]);have q1:(x.item.toList == nm.toList)=true:=(Zbw x.item nm).2 hi;have q2:(x.item.toList != nm.toList)=false:=by unfold bne;rw[q1];rfl
    clear hi;go_wp2_with fail;go_roundw
    case rel=>exact⟨k+1,by omega,by go_num,by rw[HO.o],by rw[HO.o],by rw[HO.o];exact HX5,HR5,HB5⟩
    case measure=>simp[intOf];omega
   have HO:Hid (rst (l.take (k+1)) nm t=some (stepSt (o1.getD (st0 nm)) x)):=zh (by rw[HST.o,if_pos ⟨hi,hti⟩]);have q1:(x.item.toList == nm.toList)=true:=(Zbw x.item nm).2 hi;have q2:(x.item.toList != nm.toList)=false:=by unfold bne;rw[q1];rfl
   have HBN:Hid (rb o1=(o1.getD (st0 nm)).isborn):=zh (rb_born o1 nm);generalize o1.getD (st0 nm)=s at *;generalize rb o1=b1 at *;clear hi HST;obtain⟨w6,hw6⟩:=zG (w5.setCell ⟨w.heap.size+1,0,none⟩ (.string nm));have HX6:Hid (Blk w6 (w.heap.size+1) 110 (itArr s.item)):=zh (by rw[<-hw6,<-HSN.o];exact HX5.o.set_ 0 _);have HR6:Hid (Blk w6 w.heap.size 110 (itArr it0)):=zh (by rw[<-hw6];exact HR5.o.far (by simp) _);have HE6:Hid (Blk w6 wr.heap.size 66 (evArr x)):=zh (by rw[<-hw6];exact HE5.o.far hne _);have HB6:Hid (Below w.heap.size w w6):=zh (by rw[<-hw6];exact HB5.o.setCell (p:=⟨w.heap.size+1,0,none⟩) (by show w.heap.size<=w.heap.size+1;omega) _);obtain⟨-,-,d2,d3,-,d5,d6,d7⟩:=zC8 HE6.o;obtain⟨y0,y1,y2,y3,y4,y5,y6⟩:=zC7 HX6.o;have j0:=HX6.o.frozen 0;have j1:=HX6.o.frozen 1;have j2:=HX6.o.frozen 2;have j3:=HX6.o.frozen 3;have j4:=HX6.o.frozen 4;have j5:=HX6.o.frozen 5;have j6:=HX6.o.frozen 6;have hxw:w.heap.size<=w.heap.size+1:=by omega
   have hxr:w.heap.size≠w.heap.size+1:=by omega
   rcases HXK.o with hkk|hkk|hkk
   ·have k1:(x.kind == 11)=true:=by rw[hkk];rfl
    have HKK:=zh hkk;clear hkk;have HS0:Hid (World.cell? w6 ⟨wr.heap.size,7,none⟩=some (.string x.text)/\World.cell? w6 ⟨wr.heap.size,6,none⟩=some (.int .i64 x.value)):=zh ⟨d7,d6⟩;have HK0:Hid (World.cell? w6.drew ⟨wr.heap.size,7,none⟩=some (.string x.text)/\World.cell? w6.drew ⟨wr.heap.size,6,none⟩=some (.int .i64 x.value)):=zh ⟨cell_drew' HS0.o.1,cell_drew' HS0.o.2⟩;have HS1:Hid (World.cell? (w6.setCell ⟨w.heap.size+1,6,none⟩ (.bool true)) ⟨wr.heap.size,7,none⟩=some (.string x.text)/\World.cell? (w6.setCell ⟨w.heap.size+1,6,none⟩ (.bool true)) ⟨wr.heap.size,6,none⟩=some (.int .i64 x.value)):=zh ⟨(World.cell?_setCell_far _ ⟨w.heap.size+1,_,none⟩ ⟨wr.heap.size,7,none⟩ _ hne2).trans HS0.o.1,(World.cell?_setCell_far _ ⟨w.heap.size+1,_,none⟩ ⟨wr.heap.size,6,none⟩ _ hne2).trans HS0.o.2⟩;have HK1:Hid (World.cell? (w6.setCell ⟨w.heap.size+1,6,none⟩ (.bool true)).drew ⟨wr.heap.size,7,none⟩=some (.string x.text)/\World.cell? (w6.setCell ⟨w.heap.size+1,6,none⟩ (.bool true)).drew ⟨wr.heap.size,6,none⟩=some (.int .i64 x.value)):=zh ⟨cell_drew' HS1.o.1,cell_drew' HS1.o.2⟩;have HS2:Hid (World.cell? ((w6.setCell ⟨w.heap.size+1,6,none⟩ (.bool true)).setCell ⟨w.heap.size+1,1,none⟩ (.string (headP x.text))) ⟨wr.heap.size,7,none⟩=some (.string x.text)/\World.cell? ((w6.setCell ⟨w.heap.size+1,6,none⟩ (.bool true)).setCell ⟨w.heap.size+1,1,none⟩ (.string (headP x.text))) ⟨wr.heap.size,6,none⟩=some (.int .i64 x.value)):=zh ⟨(World.cell?_setCell_far _ ⟨w.heap.size+1,_,none⟩ ⟨wr.heap.size,7,none⟩ _ hne2).trans HS1.o.1,(World.cell?_setCell_far _ ⟨w.heap.size+1,_,none⟩ ⟨wr.heap.size,6,none⟩ _ hne2).trans HS1.o.2⟩;have HK2:Hid (World.cell? ((w6.setCell ⟨w.heap.size+1,6,none⟩ (.bool true)).setCell ⟨w.heap.size+1,1,none⟩ (.string (headP x.text))).drew ⟨wr.heap.size,7,none⟩=some (.string x.text)/\World.cell? ((w6.setCell ⟨w.heap.size+1,6,none⟩ (.bool true)).setCell ⟨w.heap.size+1,1,none⟩ (.string (headP x.text))).drew ⟨wr.heap.size,6,none⟩=some (.int .i64 x.value)):=zh ⟨cell_drew' HS2.o.1,cell_drew' HS2.o.2⟩;have HS3:Hid (World.cell? (((w6.setCell ⟨w.heap.size+1,6,none⟩ (.bool true)).setCell ⟨w.heap.size+1,1,none⟩ (.string (headP x.text))).setCell ⟨w.heap.size+1,2,none⟩ (.string (restP x.text))) ⟨wr.heap.size,7,none⟩=some (.string x.text)/\World.cell? (((w6.setCell ⟨w.heap.size+1,6,none⟩ (.bool true)).setCell ⟨w.heap.size+1,1,none⟩ (.string (headP x.text))).setCell ⟨w.heap.size+1,2,none⟩ (.string (restP x.text))) ⟨wr.heap.size,6,none⟩=some (.int .i64 x.value)):=zh ⟨(World.cell?_setCell_far _ ⟨w.heap.size+1,_,none⟩ ⟨wr.heap.size,7,none⟩ _ hne2).trans HS2.o.1,(World.cell?_setCell_far _ ⟨w.heap.size+1,_,none⟩ ⟨wr.heap.size,6,none⟩ _ hne2).trans HS2.o.2⟩;have HK3:Hid (World.cell? (((w6.setCell ⟨w.heap.size+1,6,none⟩ (.bool true)).setCell ⟨w.heap.size+1,1,none⟩ (.string (headP x.text))).setCell ⟨w.heap.size+1,2,none⟩ (.string (restP x.text))).drew ⟨wr.heap.size,7,none⟩=some (.string x.text)/\World.cell? (((w6.setCell ⟨w.heap.size+1,6,none⟩ (.bool true)).setCell ⟨w.heap.size+1,1,none⟩ (.string (headP x.text))).setCell ⟨w.heap.size+1,2,none⟩ (.string (restP x.text))).drew ⟨wr.heap.size,6,none⟩=some (.int .i64 x.value)):=zh ⟨cell_drew' HS3.o.1,cell_drew' HS3.o.2⟩;have HS4:Hid (World.cell? ((((w6.setCell ⟨w.heap.size+1,6,none⟩ (.bool true)).setCell ⟨w.heap.size+1,1,none⟩ (.string (headP x.text))).setCell ⟨w.heap.size+1,2,none⟩ (.string (restP x.text))).setCell ⟨w.heap.size+1,4,none⟩ (.int .i64 x.value)) ⟨wr.heap.size,7,none⟩=some (.string x.text)/\World.cell? ((((w6.setCell ⟨w.heap.size+1,6,none⟩ (.bool true)).setCell ⟨w.heap.size+1,1,none⟩ (.string (headP x.text))).setCell ⟨w.heap.size+1,2,none⟩ (.string (restP x.text))).setCell ⟨w.heap.size+1,4,none⟩ (.int .i64 x.value)) ⟨wr.heap.size,6,none⟩=some (.int .i64 x.value)):=zh ⟨(World.cell?_setCell_far _ ⟨w.heap.size+1,_,none⟩ ⟨wr.heap.size,7,none⟩ _ hne2).trans HS3.o.1,(World.cell?_setCell_far _ ⟨w.heap.size+1,_,none⟩ ⟨wr.heap.size,6,none⟩ _ hne2).trans HS3.o.2⟩;have HK4:Hid (World.cell? ((((w6.setCell ⟨w.heap.size+1,6,none⟩ (.bool true)).setCell ⟨w.heap.size+1,1,none⟩ (.string (headP x.text))).setCell ⟨w.heap.size+1,2,none⟩ (.string (restP x.text))).setCell ⟨w.heap.size+1,4,none⟩ (.int .i64 x.value)).drew ⟨wr.heap.size,7,none⟩=some (.string x.text)/\World.cell? ((((w6.setCell ⟨w.heap.size+1,6,none⟩ (.bool true)).setCell ⟨w.heap.size+1,1,none⟩ (.string (headP x.text))).setCell ⟨w.heap.size+1,2,none⟩ (.string (restP x.text))).setCell ⟨w.heap.size+1,4,none⟩ (.int .i64 x.value)).drew ⟨wr.heap.size,6,none⟩=some (.int .i64 x.value)):=zh ⟨cell_drew' HS4.o.1,cell_drew' HS4.o.2⟩;have HM:=zh (Zly x.text w6.drew hxt);have HH:=zh (behind_any x.text w6.drew hxt);have HX7:Hid (Blk ((((w6.setCell ⟨w.heap.size+1,6,none⟩ (.bool true)).setCell ⟨w.heap.size+1,1,none⟩ (.string (headP x.text))).setCell ⟨w.heap.size+1,2,none⟩ (.string (restP x.text))).setCell ⟨w.heap.size+1,4,none⟩ (.int .i64 x.value)) (w.heap.size+1) 110 ((((itArr s.item).setIfInBounds 6 (.bool true)).setIfInBounds 1 (.string (headP x.text))).setIfInBounds 2 (.string (restP x.text)) |>.setIfInBounds 4 (.int .i64 x.value))):=zh ((((HX6.o.set_ 6 _).set_ 1 _).set_ 2 _).set_ 4 _);have HR7:Hid (Blk ((((w6.setCell ⟨w.heap.size+1,6,none⟩ (.bool true)).setCell ⟨w.heap.size+1,1,none⟩ (.string (headP x.text))).setCell ⟨w.heap.size+1,2,none⟩ (.string (restP x.text))).setCell ⟨w.heap.size+1,4,none⟩ (.int .i64 x.value)) w.heap.size 110 (itArr it0)):=zh ((((HR6.o.far hxr _).far hxr _).far hxr _).far hxr _);have HB7:Hid (Below w.heap.size w ((((w6.setCell ⟨w.heap.size+1,6,none⟩ (.bool true)).setCell ⟨w.heap.size+1,1,none⟩ (.string (headP x.text))).setCell ⟨w.heap.size+1,2,none⟩ (.string (restP x.text))).setCell ⟨w.heap.size+1,4,none⟩ (.int .i64 x.value))):=zh ((((HB6.o.setCell (p:=⟨w.heap.size+1,6,none⟩) hxw _).setCell (p:=⟨w.heap.size+1,1,none⟩) hxw _).setCell (p:=⟨w.heap.size+1,2,none⟩) hxw _).setCell (p:=⟨w.heap.size+1,4,none⟩) hxw _);have HE7:Hid (Blk ((((w6.setCell ⟨w.heap.size+1,6,none⟩ (.bool true)).setCell ⟨w.heap.size+1,1,none⟩ (.string (headP x.text))).setCell ⟨w.heap.size+1,2,none⟩ (.string (restP x.text))).setCell ⟨w.heap.size+1,4,none⟩ (.int .i64 x.value)) wr.heap.size 66 (evArr x)):=zh ((((HE6.o.far hne _).far hne _).far hne _).far hne _);go_wp2_with fail
    go_region_held3 (fun W=>World.cell? W ⟨wr.heap.size,7,none⟩=some (.string x.text)/\World.cell? W ⟨wr.heap.size,6,none⟩=some (.int .i64 x.value))
     (first|with_reducible exact HK0.o|with_reducible exact HK1.o|with_reducible exact HK2.o|with_reducible exact HK3.o|with_reducible exact HK4.o)
     (first|(go_at_call 93;refine HM.o.mono ?_;rintro e v1 ⟨rfl,rfl⟩)|(go_at_call 94;refine HH.o.mono ?_;rintro e v1 ⟨rfl,rfl⟩))
    obtain⟨w7,hw7⟩:=zG (((((w6.setCell ⟨w.heap.size+1,6,none⟩ (.bool true)).setCell ⟨w.heap.size+1,1,none⟩ (.string (headP x.text))).setCell ⟨w.heap.size+1,2,none⟩ (.string (restP x.text))).setCell ⟨w.heap.size+1,4,none⟩ (.int .i64 x.value)).drew);rw[hw7];have HX8:Hid (Blk w7 (w.heap.size+1) 110 ((((itArr s.item).setIfInBounds 6 (.bool true)).setIfInBounds 1 (.string (headP x.text))).setIfInBounds 2 (.string (restP x.text)) |>.setIfInBounds 4 (.int .i64 x.value))):=zh (by rw[<-hw7];exact HX7.o.drew);have HR8:Hid (Blk w7 w.heap.size 110 (itArr it0)):=zh (by rw[<-hw7];exact HR7.o.drew);have HB8:Hid (Below w.heap.size w w7):=zh (by rw[<-hw7];exact HB7.o.drew);have HE8:Hid (Blk w7 wr.heap.size 66 (evArr x)):=zh (by rw[<-hw7];exact HE7.o.drew);have t2:w7.cell? ⟨wr.heap.size,2,none⟩=some (.int .i64 x.tick):=HE8.o.cell 2;have u5:w7.cell? ⟨w.heap.size+1,5,none⟩=some (.int .i64 s.item.born):=HX8.o.cell 5;have v5:=HX8.o.frozen 5;clear hw7 HX7 HR7 HB7 HE7 HK0 HK1 HK2 HK3 HK4 HS0 HS1 HS2 HS3 HS4 HM HH;cases b1
    ·have HBB:Hid (s.isborn=false):=zh HBN.o.symm;go_wp2_with fail;go_roundw
     case rel=>
      refine⟨k+1,by omega,by go_num,by rw[HO.o];rfl,by rw[HO.o];simp[rb,step_born,HKK.o],zh ?_,zh (HR8.o.far hxr _),zh (HB8.o.setCell (p:=⟨w.heap.size+1,5,none⟩) hxw _)⟩;rw[HO.o];show Blk _ _ _ (itArr (stepSt s x).item);rw[<-rstep11f HKK.o HBB.o];exact HX8.o.set_ 5 _
     case measure=>simp[intOf];omega
    ·have HBB:Hid (s.isborn=true):=zh HBN.o.symm;go_wp2_with fail;go_roundw
     case rel=>
      refine⟨k+1,by omega,by go_num,by rw[HO.o];rfl,by rw[HO.o];simp[rb,step_born,HKK.o],zh ?_,HR8,HB8⟩;rw[HO.o];show Blk _ _ _ (itArr (stepSt s x).item);rw[<-rstep11t HKK.o HBB.o];exact HX8.o
     case measure=>simp[intOf];omega
   ·have k1:(x.kind == 11)=false:=by rw[hkk];rfl
    have k2:(x.kind == 13)=false:=by rw[hkk];rfl
    have k3:(x.kind == 12)=true:=by rw[hkk];rfl
    have HKK:=zh hkk;clear hkk;go_wp2_with fail;go_roundw
    case rel=>
     refine⟨k+1,by omega,by go_num,by rw[HO.o];rfl,by rw[HO.o,HBN.o];simp[rb,step_born,HKK.o],zh ?_,zh (HR6.o.far hxr _),zh (HB6.o.setCell (p:=⟨w.heap.size+1,3,none⟩) hxw _)⟩;rw[HO.o];show Blk _ _ _ (itArr (stepSt s x).item);rw[<-rstep12 HKK.o];exact HX6.o.set_ 3 _
    case measure=>simp[intOf];omega
   ·have k1:(x.kind == 11)=false:=by rw[hkk];rfl
    have k2:(x.kind == 13)=true:=by rw[hkk];rfl
    have HKK:=zh hkk;clear hkk;go_wp2_with fail;go_roundw
    case rel=>
     refine⟨k+1,by omega,by go_num,by rw[HO.o];rfl,by rw[HO.o,HBN.o];simp[rb,step_born,HKK.o],zh ?_,zh (HR6.o.far hxr _),zh (HB6.o.setCell (p:=⟨w.heap.size+1,6,none⟩) hxw _)⟩;rw[HO.o];show Blk _ _ _ (itArr (stepSt s x).item);rw[<-rstep13 HKK.o];exact HX6.o.set_ 6 _
    case measure=>simp[intOf];omega
  ·obtain rfl:n=k:=by omega
   have htl:l.take n=l:=by rw[<-HN.o,List.take_length]
   rw[htl]at hbx ⊢;generalize hrt:rst l nm t=o1 at *;have HRT:=zh hrt;clear hrt;have x0:wr.cell? ⟨w.heap.size+1,0,none⟩=some (.string (rx o1).name):=hbx.o.cell 0;have x1:wr.cell? ⟨w.heap.size+1,1,none⟩=some (.string (rx o1).maker):=hbx.o.cell 1;have x2:wr.cell? ⟨w.heap.size+1,2,none⟩=some (.string (rx o1).tags):=hbx.o.cell 2;have x3:wr.cell? ⟨w.heap.size+1,3,none⟩=some (.int .i64 (rx o1).stock):=hbx.o.cell 3;have x4:wr.cell? ⟨w.heap.size+1,4,none⟩=some (.int .i64 (rx o1).price):=hbx.o.cell 4;have x5:wr.cell? ⟨w.heap.size+1,5,none⟩=some (.int .i64 (rx o1).born):=hbx.o.cell 5;have x6:wr.cell? ⟨w.heap.size+1,6,none⟩=some (.bool (rx o1).listed):=hbx.o.cell 6;have r0:wr.cell? ⟨w.heap.size,0,none⟩=some (.string it0.name):=hbr.o.cell 0;have r1:wr.cell? ⟨w.heap.size,1,none⟩=some (.string it0.maker):=hbr.o.cell 1;have r2:wr.cell? ⟨w.heap.size,2,none⟩=some (.string it0.tags):=hbr.o.cell 2;have r3:wr.cell? ⟨w.heap.size,3,none⟩=some (.int .i64 it0.stock):=hbr.o.cell 3;have r4:wr.cell? ⟨w.heap.size,4,none⟩=some (.int .i64 it0.price):=hbr.o.cell 4;have r5:wr.cell? ⟨w.heap.size,5,none⟩=some (.int .i64 it0.born):=hbr.o.cell 5;have r6:wr.cell? ⟨w.heap.size,6,none⟩=some (.bool it0.listed):=hbr.o.cell 6;have f0:=hbr.o.frozen 0;have f1:=hbr.o.frozen 1;have f2:=hbr.o.frozen 2;have f3:=hbr.o.frozen 3;have f4:=hbr.o.frozen 4;have f5:=hbr.o.frozen 5;have f6:=hbr.o.frozen 6;go_wp2_with fail;refine bodyPost_ret (v:=.tuple #[.agg #[.string (rx o1).name,.string (rx o1).maker,.string (rx o1).tags,.int .i64 (rx o1).stock,.int .i64 (rx o1).price,.int .i64 (rx o1).born,.bool (rx o1).listed],.bool o1.isSome]) (by simp[results,Tryz.results48,go_sem,r0,r1,r2,r3,r4,r5,r6]) rfl ⟨by rw[HRT.o];rfl,?_⟩;exact (((((((hbw.o.setCell (p:=⟨w.heap.size,0,none⟩) (zr _) _).setCell (p:=⟨w.heap.size,1,none⟩) (zr _) _).setCell (p:=⟨w.heap.size,2,none⟩) (zr _) _).setCell (p:=⟨w.heap.size,3,none⟩) (zr _) _).setCell (p:=⟨w.heap.size,4,none⟩) (zr _) _).setCell (p:=⟨w.heap.size,5,none⟩) (zr _) _).setCell (p:=⟨w.heap.size,6,none⟩) (zr _) _)
end Go.Proofs.YtphmhbcimhlcjaaGreatDoor
namespace Go.Proofs.YtphmhbcimhlcjaaGreatDoor
open Go.Shelf Go.RowKit Go.Maps
theorem eq_ev_self (a:ByteArray)(b c d:Int)(e f:ByteArray)(g:Int)(h:ByteArray)(w:World) :
  (Op.equalIn 10000 66 (.agg #[.string a,.int .i64 b,.int .i64 c,.int .i64 d,.string e,.string f,.int .i64 g,.string h]) (.agg #[.string a,.int .i64 b,.int .i64 c,.int .i64 d,.string e,.string f,.int .i64 g,.string h])).run Tryz.prog w = .ok true w:=by
 simp[go_sem]
theorem same_any (w:World)(B:Nat)(A1 A2:Option Addr)(l:List Ev)(n c1 c2:Nat)(hn:l.length=n)(h1:EvsAt w B A1 l)(h2:EvsAt w B A2 l)(hB:B<=w.heap.size)(hb:n<=100000) :
  Calls Tryz.prog 14 #[.slice A1 n c1,.slice A2 n c2] w fun e w'=>e = .returned (.bool true)/\Below w.heap.size w w':=by
 have HN:=zh hn;have H1:=zh h1;have H2:=zh h2;clear hn h1 h2;have hnn:((n:Int) != (n:Int))=false:=by simp
 go_enter Tryz.func14,Tryz.ntmps14;go_wp2_with fail;go_loopw [5] (fun i wr=>∃k q:Nat,k<=n/\i = .int .i64 k/\wr=w.drewN q) (fun i _=>n - (intOf i).toNat)
 case atStart=>exact⟨0,0,Nat.zero_le _,rfl,rfl⟩
 case round=>
  obtain⟨k,q,hk,rfl,rfl⟩:=hrel;by_cases hlt:k<n
  ·obtain⟨x,hx⟩:∃x,l[k]? = some x:=⟨l[k]'(by rw[HN.o];exact hlt),List.getElem?_eq_getElem _⟩
   obtain⟨g,o,rfl,_,hc⟩:=H1.o.at (by rw[HN.o];omega);obtain⟨g',o',rfl,_,hc'⟩:=H2.o.at (by rw[HN.o];omega);obtain⟨e0,e1,e2,e3,e4,e5,e6,e7⟩:=hc k x hx;obtain⟨f0,f1,f2,f3,f4,f5,f6,f7⟩:=hc' k x hx;have hk8:(k:Int)<(n:Int):=by omega
   have hk9:(0:Int)<=(k:Int):=by omega
   have hes:=eq_ev_self x.src x.num x.tick x.kind x.person x.item x.value x.text;clear hx hc hc';go_wp2_with fail;go_quiet (fail);go_wp2_with fail;go_roundw
   case rel=>exact⟨k+1,q+nq,by omega,by go_num,by first|rfl|simp⟩
   case measure=>simp[intOf];omega
  ·obtain rfl:n=k:=by omega
   go_wp2_with fail;go_ret;exact⟨rfl,below_drewN (Below.refl _ _) _⟩
end Go.Proofs.YtphmhbcimhlcjaaGreatDoor
