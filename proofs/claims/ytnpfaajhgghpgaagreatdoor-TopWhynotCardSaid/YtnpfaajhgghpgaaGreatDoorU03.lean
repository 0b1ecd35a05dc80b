/- A part of the joined base. -/
import Derived.Test.YtnpfaajhgghpgaaGreatDoorU02
import Derived.Shelf.SlSortCmp.Insertion
import Derived.Sort.LotA
set_option linter.unusedVariables false
set_option maxHeartbeats 8000000
set_option maxRecDepth 100000
namespace Go.Proofs.YtnpfaajhgghpgaaGreatDoor
open Go.Shelf Go.RowKit Go.Maps
def ltB (a b:ByteArray):Bool:=Op.bytesLess a.toList b.toList
def riseB:List ByteArray->Bool
 | []=>true
 | [x]=>nameB x
 | x::y::l=>nameB x&&(ltB x y&&riseB (y::l))
def okAt (l:List ByteArray)(k:Nat):Prop:=∀t,l[k]? = some t->nameB t=true/\∀u,0<k->l[k - 1]? = some u->ltB u t=true
theorem Zde:∀(l:List ByteArray),riseB l=true↔∀k,okAt l k
 | []=>by simp[riseB,okAt]
 | [x]=>by
  constructor
  ·intro h k t ht;rcases k with _|k
   ·simp at ht;subst ht;exact⟨h,fun u h0=>by omega⟩
   ·simp at ht
  ·intro h;exact (h 0 x rfl).1
 | x::y::l=>by
  have ih:=Zde (y::l)
  constructor
  ·intro h k t ht;simp only[riseB,Bool.and_eq_true]at h;rcases k with _|k
   ·simp at ht;subst ht;exact⟨h.1,fun u h0=>by omega⟩
   ·have h2:=(ih.1 h.2.2) k t (by simpa using ht);refine⟨h2.1,fun u _ hu=>?_⟩;rcases k with _|k
    ·simp at ht hu;subst ht hu;exact h.2.1
    ·exact h2.2 u (by omega) (by simpa using hu)
  ·intro h;simp only[riseB,Bool.and_eq_true];refine⟨(h 0 x rfl).1,(h 1 y rfl).2 x (by omega) rfl,ih.2 fun k t ht=>?_⟩;have h2:=h (k+1) t (by simpa using ht);refine⟨h2.1,fun u h0 hu=>h2.2 u (by omega) ?_⟩;rcases k with _|k
   ·omega
   ·simpa using hu
def listB (s:ByteArray):Bool:=cutsP s&&(nameB (headP s)&&(decide ((evTags s).length<=8)&&riseB (evTags s)))
theorem Zip (s:ByteArray):(headP s).size<=s.size:=by
 show (Lib.cut s.data.toList [59]).1.toArray.size<=s.data.size;unfold Lib.cut;split <;> simp
 exact Nat.min_le_right _ _
theorem below_drewN {B:Nat}{w w':World}(h:Below B w w')(n:Nat):Below B w (w'.drewN n):=⟨h.os,h.tape,h.output,h.size,h.block⟩
theorem Zd3 {B:Nat}{w w':World}(n:Nat)(h:Below B (w.drewN n) w'):Below B w w':=⟨h.os,h.tape,h.output,h.size,h.block⟩
theorem Zju (sep:ByteArray):∀(k:Nat) (s:ByteArray),∀t∈Lib.splitB sep 0 k s,t.size<=s.size
 | 0,s=>by simp[Lib.splitB]
 | k+1,s=>by
  unfold Lib.splitB;split
  ·simp
  ·intro t ht;rcases List.mem_cons.1 ht with rfl|ht
   ·rw[ByteArray.size_extract];omega
   ·have:=Zju sep k _ t ht;rw[ByteArray.size_extract]at this;omega
theorem Zgf (s:ByteArray):∀t∈evTags s,t.size<=s.size:=by
 intro t ht;unfold evTags at ht;split at ht
 ·cases ht
 ·have:=Zju _ _ _ t ht;have:=Ze5 s;omega
theorem Ziq (s:ByteArray)(w:World)(hs:s.size<4294967281)(hg:GlobAt w) :
  Calls Tryz.prog 44 #[.string s] w fun e w'=>e = .returned (.bool (listB s))/\Below w.heap.size w w':=by
 have HC:=zh (Zgc s w hs hg);have hle:=Zip s;have HP:=zh (Zgf s);have HL:Hid (listB s=(cutsP s&&(nameB (headP s)&&(decide ((evTags s).length<=8)&&riseB (evTags s))))):=zh rfl;go_enter Tryz.func44,Tryz.ntmps44;go_wp2_with fail;refine HC.o.mono ?_;rintro e w1 ⟨rfl,q,rfl⟩;clear HC;cases hcut:cutsP s
 ·have HCT:=zh hcut;clear hcut;go_wp2_with fail;go_ret;exact⟨Zab (by rw[HL.o,HCT.o];rfl),below_drewN (Below.refl _ _) _⟩
 ·have HCT:=zh hcut;have HN:=zh (name_any (headP s) (w.drewN q) (by unfold maxLen;omega));have HT:=zh (Zfs s (w.drewN q) hs (hg.drewN q));clear hcut hg;generalize headP s=h at *;go_wp2_with fail;refine HN.o.mono ?_;rintro e w1 ⟨rfl,rfl⟩;clear HN;cases hn:nameB h
  ·have HNM:=zh hn;clear hn;go_wp2_with fail;go_ret;exact⟨Zab (by rw[HL.o,HCT.o,HNM.o];rfl),below_drewN (Below.refl _ _) _⟩
  ·have HNM:=zh hn;clear hn;go_wp2_with fail;refine HT.o.mono ?_;rintro e w2 ⟨A,c,rfl,hrow,hnil,hb2⟩;clear HT;have HB2:Hid (Below w.heap.size w w2):=zh (Zd3 q hb2);generalize evTags s=l at *;obtain⟨n,hn⟩:=zG (l.length);rw[hn]at hrow ⊢;have HLN:=zh hn;have HR:=zh hrow;clear hrow hb2 hn;by_cases h8:n<=8
   ·go_wp2_with fail;go_loopw [29] (fun i wr=>∃k:Nat,k<=n/\i = .int .i64 k/\Hid (∀j,j<k->okAt l j)/\wr=w2) (fun i _=>n - (intOf i).toNat)
    case atStart=>exact⟨0,Nat.zero_le _,rfl,zh (fun j hj=>by omega),rfl⟩
    case round=>
     obtain⟨k,hk,rfl,hok,rfl⟩:=hrel;by_cases hlt:k<n
     ·obtain⟨t,ht⟩:∃t,l[k]? = some t:=⟨l[k]'(by rw[HLN.o];exact hlt),List.getElem?_eq_getElem _⟩
      obtain⟨g,o,rfl,_,hc⟩:=HR.o.at (by omega);have e0:wr.cell? ⟨g,o+k,none⟩=some (.string t):=hc k _ (by simp[ht]);have hts:=HP.o t (List.mem_of_getElem? ht);have HN:=zh (name_any t wr (by unfold maxLen;omega));have HTK:=zh ht;have hk8:(k:Int)<(n:Int):=by omega
      have hk9:(0:Int)<=(k:Int):=by omega
      cases hn:nameB t
      ·have HNT:=zh hn;rw[hn]at HN;clear hn ht hc;go_wp2_with fail;refine HN.o.mono ?_;rintro e w3 ⟨rfl,rfl⟩;clear HN;go_wp2_with fail;go_ret;refine⟨Zab ?_,HB2.o⟩;have hr:riseB l=false:=by
        cases hr:riseB l
        ·rfl
        ·have:=((Zde l).1 hr k t HTK.o).1;rw[HNT.o]at this;cases this
       rw[HL.o,hr];simp
      ·have HNT:=zh hn;rw[hn]at HN;by_cases hk0:k=0
       ·subst hk0;rw[Nat.add_zero]at e0;clear hn ht hc;go_wp2_with fail;refine HN.o.mono ?_;rintro e w3 ⟨rfl,rfl⟩;clear HN;go_wp2_with fail;go_roundw
        case rel=>
         refine⟨1,by omega,by go_num,zh (fun j hj=>?_),by trivial⟩;obtain rfl:j=0:=by omega
         intro t' ht';rw[HTK.o]at ht';cases ht';exact⟨HNT.o,fun u h0=>by omega⟩
        case measure=>simp[intOf];omega
       ·obtain⟨u,hu⟩:∃u,l[k - 1]? = some u:=⟨l[k - 1]'(by rw[HLN.o];omega),List.getElem?_eq_getElem _⟩
        have e1:wr.cell? ⟨g,o+(k - 1),none⟩=some (.string u):=hc (k - 1) _ (by simp[hu]);have HU:=zh hu;have hkk:((k:Int) - 1).toNat=k - 1:=by omega
        have hk1:decide ((0:Int)<(k:Int))=true:=decide_eq_true (by omega);have hk2:(0:Int)<=(k:Int) - 1:=by omega
        have hk3:(k:Int) - 1<(n:Int):=by omega
        clear hn ht hc hu;cases hlt2:Op.bytesLess u.toList t.toList
        ·have HLT:=zh hlt2;go_wp2_with fail;refine HN.o.mono ?_;rintro e w3 ⟨rfl,rfl⟩;clear HN;go_wp2_with fail;go_ret;refine⟨Zab ?_,HB2.o⟩;have hr:riseB l=false:=by
          cases hr:riseB l
          ·rfl
          ·have:=((Zde l).1 hr k t HTK.o).2 u (by omega) HU.o;unfold ltB at this;rw[HLT.o]at this;cases this
         rw[HL.o,hr];simp
        ·have HLT:=zh hlt2;go_wp2_with fail;refine HN.o.mono ?_;rintro e w3 ⟨rfl,rfl⟩;clear HN;go_wp2_with fail;go_roundw
         case rel=>
          refine⟨k+1,by omega,by go_num,zh (fun j hj=>?_),by trivial⟩;by_cases e:j=k
          ·subst e;intro t' ht';rw[HTK.o]at ht';cases ht';refine⟨HNT.o,fun u' _ hu'=>?_⟩;rw[HU.o]at hu';cases hu';exact HLT.o
          ·exact hok.o j (by omega)
         case measure=>simp[intOf];omega
     ·go_wp2_with fail;go_ret;refine⟨Zab ?_,HB2.o⟩
      have hr:riseB l=true:=(Zde l).2 (fun j=>by
       by_cases hj:j<k
       ·exact hok.o j hj
       ·intro t ht;have:=(List.getElem?_eq_some_iff.1 ht).1;rw[HLN.o]at this;omega)
      rw[HL.o,hr,HCT.o,HNM.o,HLN.o];simp[h8]
   ·go_wp2_with fail;go_ret;refine⟨Zab ?_,HB2.o⟩;rw[HL.o,HLN.o];simp[h8]
end Go.Proofs.YtnpfaajhgghpgaaGreatDoor
namespace Go.Proofs.YtnpfaajhgghpgaaGreatDoor
open Go.Shelf Go.RowKit Go.Maps
def empB (s:ByteArray):Bool:=s.toList.isEmpty
def kindB (e:Ev):Bool:=
 if e.kind=0\/e.kind=1\/e.kind=2\/e.kind=3\/e.kind=5\/e.kind=6 then nameB e.person&&(nameB e.item&&(decide (e.value=0)&&empB e.text))
 else if e.kind=4 then nameB e.person&&(nameB e.item&&(decide (1<=e.value)&&(decide (e.value<=5)&&empB e.text)))
 else if e.kind=7\/e.kind=8\/e.kind=9\/e.kind=10 then nameB e.person&&(empB e.item&&(decide (e.value=0)&&nameB e.text))
 else if e.kind=11 then empB e.person&&(nameB e.item&&(decide (0<=e.value)&&(decide (e.value<=1048576)&&listB e.text)))
 else if e.kind=12 then empB e.person&&(nameB e.item&&(decide (0<=e.value)&&(decide (e.value<=1048576)&&empB e.text)))
 else if e.kind=13 then empB e.person&&(nameB e.item&&(decide (e.value=0)&&empB e.text))
 else if e.kind=14 then nameB e.person&&(empB e.item&&(decide (e.value=0)&&empB e.text))
 else false
def mayB (e:Ev):Bool:=nameB e.src&&(decide (1<=e.num/\e.num<=1099511627776)&&(decide (0<=e.tick/\e.tick<=1099511627776)&&kindB e))
def EvSh (e:Ev):Prop:=e.src.size<=1000000/\e.person.size<=1000000/\e.item.size<=1000000/\e.text.size<=1000000
theorem may_any (x:Ev)(w:World)(hs:EvSh x)(hg:GlobAt w) :
  Calls Tryz.prog 14 #[evA x] w fun e w'=>e = .returned (.bool (mayB x))/\Below w.heap.size w w':=by
 obtain⟨s0,n0,t0,k0,p0,i0,v0,x0⟩:=x;obtain⟨h0,h1,h2,h3⟩:=hs;dsimp only at h0 h1 h2 h3;have HM:Hid (mayB ⟨s0,n0,t0,k0,p0,i0,v0,x0⟩=(nameB s0&&(decide (1<=n0/\n0<=1099511627776)&&(decide (0<=t0/\t0<=1099511627776)&&kindB ⟨s0,n0,t0,k0,p0,i0,v0,x0⟩)))):=zh rfl;unfold evA;dsimp only;obtain⟨w1,hw1⟩:=zG (w.alloc (.cells #[.string s0,.int .i64 n0,.int .i64 t0,.int .i64 k0,.string p0,.string i0,.int .i64 v0,.string x0] 59));have bl:Blk w1 w.heap.size 59 #[.string s0,.int .i64 n0,.int .i64 t0,.int .i64 k0,.string p0,.string i0,.int .i64 v0,.string x0]:=by rw[<-hw1];exact Blk.new _ _ _
 have HB1:Hid (Below w.heap.size w w1):=by rw[<-hw1];exact (Below.refl _ _).alloc (zr _) _
 have HZ:Hid (w.heap.size<=w1.heap.size):=HB1.o.size;have c0:w1.cell? ⟨w.heap.size,0,none⟩=some (.string s0):=bl.cell 0;have c1:w1.cell? ⟨w.heap.size,1,none⟩=some (.int .i64 n0):=bl.cell 1;have c2:w1.cell? ⟨w.heap.size,2,none⟩=some (.int .i64 t0):=bl.cell 2;have c3:w1.cell? ⟨w.heap.size,3,none⟩=some (.int .i64 k0):=bl.cell 3;have c4:w1.cell? ⟨w.heap.size,4,none⟩=some (.string p0):=bl.cell 4;have c5:w1.cell? ⟨w.heap.size,5,none⟩=some (.string i0):=bl.cell 5;have c6:w1.cell? ⟨w.heap.size,6,none⟩=some (.int .i64 v0):=bl.cell 6;have c7:w1.cell? ⟨w.heap.size,7,none⟩=some (.string x0):=bl.cell 7;have HN0:=zh (name_any s0 w1 (by unfold maxLen;omega));have HG:=zh (hg.keep HB1.o (zr _));clear bl hg;go_enter Tryz.func14,Tryz.ntmps14;go_wp2_with fail;refine HN0.o.mono ?_;rintro e w2 ⟨rfl,rfl⟩;clear hw1 HN0;cases hn0:nameB s0
 ·have HS:=zh hn0;clear hn0;go_wp2_with fail;go_ret;exact⟨Zab (by rw[HM.o,HS.o];rfl),HB1.o⟩
 ·have HS:=zh hn0;clear hn0;by_cases hnum:1<=n0/\n0<=1099511627776
  ·by_cases htick:0<=t0/\t0<=1099511627776
   ·have b1:decide (n0<1)=false:=decide_eq_false (by omega);have b2:decide (1099511627776<n0)=false:=decide_eq_false (by omega);have b3:decide (t0<0)=false:=decide_eq_false (by omega);have b4:decide (1099511627776<t0)=false:=decide_eq_false (by omega);have HM2:Hid (mayB ⟨s0,n0,t0,k0,p0,i0,v0,x0⟩=kindB ⟨s0,n0,t0,k0,p0,i0,v0,x0⟩):=zh (by rw[HM.o,HS.o,decide_eq_true hnum,decide_eq_true htick];rfl);clear hnum htick HM HS;go_wp2_with fail;refine Ze4 [] (by kernel_rfl) (by kernel_rfl) ?_;simp only[wpText]
    repeat ((with_reducible refine wpStill_step (fun K hK=>?_));go_simp;refine hK _ ?_;clear hK K)
    with_reducible refine wpStill_step (fun K hK=>?_)
    go_simp;refine⟨_,Zbn (name_any p0 _ (by unfold maxLen;omega)),hK _ ?_⟩;clear hK K
    repeat ((with_reducible refine wpStill_step (fun K hK=>?_));go_simp;refine hK _ ?_;clear hK K)
    with_reducible refine wpStill_step (fun K hK=>?_)
    go_simp;refine⟨_,Zbn (name_any i0 _ (by unfold maxLen;omega)),hK _ ?_⟩;clear hK K
    repeat ((with_reducible refine wpStill_step (fun K hK=>?_));go_simp;refine hK _ ?_;clear hK K)
    with_reducible refine wpStill_nil ?_
    have HBD:Hid (Below w.heap.size w w1.drew):=zh ⟨HB1.o.os,HB1.o.tape,HB1.o.output,HB1.o.size,HB1.o.block⟩;have HGD:Hid (GlobAt w1.drew):=zh HG.o.drew;have HX:=zh (name_any x0 w1.drew (by unfold maxLen;omega));have HLI:=zh (Ziq x0 w1.drew (by omega) HGD.o);by_cases g1:k0=0\/k0=1\/k0=2\/k0=3\/k0=5\/k0=6
    ·have HK:Hid (kindB ⟨s0,n0,t0,k0,p0,i0,v0,x0⟩=(nameB p0&&(nameB i0&&(decide (v0=0)&&empB x0)))):=zh (by simp only[kindB];rw[if_pos g1])
     skip
     rcases g1 with rfl|rfl|rfl|rfl|rfl|rfl <;> ((go_wp2_with fail) <;> (go_ret;exact⟨Zab (by rw[HM2.o,HK.o];simp[empB, *] <;> omega),HBD.o⟩))
    by_cases g2:k0=4
    ·have HK:Hid (kindB ⟨s0,n0,t0,k0,p0,i0,v0,x0⟩=(nameB p0&&(nameB i0&&(decide (1<=v0)&&(decide (v0<=5)&&empB x0))))):=zh (by simp only[kindB];rw[if_neg g1,if_pos g2]);clear g1;rcases g2 with rfl <;> ((go_wp2_with fail) <;> (go_ret;exact⟨Zab (by rw[HM2.o,HK.o];simp[empB, *] <;> omega),HBD.o⟩))
    by_cases g3:k0=7\/k0=8\/k0=9\/k0=10
    ·have HK:Hid (kindB ⟨s0,n0,t0,k0,p0,i0,v0,x0⟩=(nameB p0&&(empB i0&&(decide (v0=0)&&nameB x0)))):=zh (by simp only[kindB];rw[if_neg g1,if_neg g2,if_pos g3]);clear g1 g2;rcases g3 with rfl|rfl|rfl|rfl <;> ((go_wp2_with fail) <;> first|(go_ret;exact⟨Zab (by rw[HM2.o,HK.o];simp[empB, *] <;> omega),HBD.o⟩)|(refine HX.o.mono ?_;rintro e w2 ⟨rfl,rfl⟩;(go_wp2_with fail) <;> (go_ret;exact⟨Zab (by rw[HM2.o,HK.o];simp[empB, *] <;> omega),HBD.o⟩)))
    by_cases g4:k0=11
    ·have HK:Hid (kindB ⟨s0,n0,t0,k0,p0,i0,v0,x0⟩=(empB p0&&(nameB i0&&(decide (0<=v0)&&(decide (v0<=1048576)&&listB x0))))):=zh (by simp only[kindB];rw[if_neg g1,if_neg g2,if_neg g3,if_pos g4]);clear g1 g2 g3;rcases g4 with rfl <;> ((go_wp2_with fail) <;> first|(go_ret;exact⟨Zab (by rw[HM2.o,HK.o];simp[empB, *] <;> omega),HBD.o⟩)|(refine HLI.o.mono ?_;rintro e w2 ⟨rfl,hb2⟩;(go_wp2_with fail) <;> (go_ret;exact⟨Zab (by rw[HM2.o,HK.o];simp[empB, *] <;> omega),HBD.o.trans (hb2.mono HBD.o.size)⟩)))
    by_cases g5:k0=12
    ·have HK:Hid (kindB ⟨s0,n0,t0,k0,p0,i0,v0,x0⟩=(empB p0&&(nameB i0&&(decide (0<=v0)&&(decide (v0<=1048576)&&empB x0))))):=zh (by simp only[kindB];rw[if_neg g1,if_neg g2,if_neg g3,if_neg g4,if_pos g5]);clear g1 g2 g3 g4;rcases g5 with rfl <;> ((go_wp2_with fail) <;> (go_ret;exact⟨Zab (by rw[HM2.o,HK.o];simp[empB, *] <;> omega),HBD.o⟩))
    by_cases g6:k0=13
    ·have HK:Hid (kindB ⟨s0,n0,t0,k0,p0,i0,v0,x0⟩=(empB p0&&(nameB i0&&(decide (v0=0)&&empB x0)))):=zh (by simp only[kindB];rw[if_neg g1,if_neg g2,if_neg g3,if_neg g4,if_neg g5,if_pos g6]);clear g1 g2 g3 g4 g5;rcases g6 with rfl <;> ((go_wp2_with fail) <;> (go_ret;exact⟨Zab (by rw[HM2.o,HK.o];simp[empB, *] <;> omega),HBD.o⟩))
    by_cases g7:k0=14
    ·have HK:Hid (kindB ⟨s0,n0,t0,k0,p0,i0,v0,x0⟩=(nameB p0&&(empB i0&&(decide (v0=0)&&empB x0)))):=zh (by simp only[kindB];rw[if_neg g1,if_neg g2,if_neg g3,if_neg g4,if_neg g5,if_neg g6,if_pos g7]);clear g1 g2 g3 g4 g5 g6;rcases g7 with rfl <;> ((go_wp2_with fail) <;> (go_ret;exact⟨Zab (by rw[HM2.o,HK.o];simp[empB, *] <;> omega),HBD.o⟩))
    have HK:Hid (kindB ⟨s0,n0,t0,k0,p0,i0,v0,x0⟩=false):=zh (by simp only[kindB];rw[if_neg g1,if_neg g2,if_neg g3,if_neg g4,if_neg g5,if_neg g6,if_neg g7]);have q:∀z∈[0,1,2,3,4,5,6,7,8,9,10,11,12,13,14],(k0 == z)=false:=by
     intro z hz;simp only[List.mem_cons,List.mem_nil_iff,or_false]at hz;rcases hz with rfl|rfl|rfl|rfl|rfl|rfl|rfl|rfl|rfl|rfl|rfl|rfl|rfl|rfl|rfl <;> (rw[beq_eq_false_iff_ne];omega)
    have q0:=q 0 (by simp);have q1:=q 1 (by simp);have q2:=q 2 (by simp);have q3:=q 3 (by simp);have q4:=q 4 (by simp);have q5:=q 5 (by simp);have q6:=q 6 (by simp);have q7:=q 7 (by simp);have q8:=q 8 (by simp);have q9:=q 9 (by simp);have q10:=q 10 (by simp);have q11:=q 11 (by simp);have q12:=q 12 (by simp);have q13:=q 13 (by simp);have q14:=q 14 (by simp);clear q g1 g2 g3 g4 g5 g6 g7;go_wp2_with fail;go_ret;exact⟨Zab (by rw[HM2.o,HK.o]),HBD.o⟩
   ·have HM2:Hid (mayB ⟨s0,n0,t0,k0,p0,i0,v0,x0⟩=false):=zh (by rw[HM.o,decide_eq_false htick];simp);have b1:decide (n0<1)=false:=decide_eq_false (by omega);have b2:decide (1099511627776<n0)=false:=decide_eq_false (by omega);by_cases h4:t0<0
    ·clear hnum htick;go_wp2_with fail;go_ret;exact⟨Zab HM2.o.symm,HB1.o⟩
    ·have h5:1099511627776<t0:=by omega
     clear hnum htick;go_wp2_with fail;go_ret;exact⟨Zab HM2.o.symm,HB1.o⟩
  ·have HM2:Hid (mayB ⟨s0,n0,t0,k0,p0,i0,v0,x0⟩=false):=zh (by rw[HM.o,decide_eq_false hnum];simp);by_cases h4:n0<1
   ·clear hnum;go_wp2_with fail;go_ret;exact⟨Zab HM2.o.symm,HB1.o⟩
   ·have h5:1099511627776<n0:=by omega
    clear hnum;go_wp2_with fail;go_ret;exact⟨Zab HM2.o.symm,HB1.o⟩
end Go.Proofs.YtnpfaajhgghpgaaGreatDoor
namespace Go.Proofs.YtnpfaajhgghpgaaGreatDoor
open Go.Sort
theorem Zd4 (x y:UInt8)(a b:List UInt8):Lib.compareBytes (x::a) (y::b)=if x<y then -1 else if y<x then 1 else Lib.compareBytes a b:=by
 rw[Lib.compareBytes]
theorem Zjv:∀a b:List UInt8,Lib.compareBytes a b = -1\/Lib.compareBytes a b=0\/Lib.compareBytes a b=1
 | [],[]=>Or.inr (Or.inl rfl)
 | [],_::_=>Or.inl rfl
 | _::_,[]=>Or.inr (Or.inr rfl)
 | x::a,y::b=>by
  rw[Zd4];split
  ·exact Or.inl rfl
  ·split
   ·exact Or.inr (Or.inr rfl)
   ·exact Zjv a b
theorem Zme {x y:UInt8}(h1:¬x<y)(h2:¬y<x):x=y:=by
 apply UInt8.toNat_inj.1;have h3:¬x.toNat<y.toNat:=h1;have h4:¬y.toNat<x.toNat:=h2;omega
theorem Zmf:∀a b:List UInt8,Lib.compareBytes a b=0->a=b
 | [],[],_=>rfl
 | [],_::_,h=>by cases h
 | _::_,[],h=>by cases h
 | x::a,y::b,h=>by
  rw[Zd4]at h;split at h
  ·cases h
  ·split at h
   ·cases h
   ·rename_i h1 h2
    rw[Zme h1 h2,Zmf a b h]
theorem Zmg:∀a b:List UInt8,Lib.compareBytes a b = - Lib.compareBytes b a
 | [],[]=>rfl
 | [],_::_=>rfl
 | _::_,[]=>rfl
 | x::a,y::b=>by
  rw[Zd4,Zd4];by_cases h1:x<y
  ·have h2:¬y<x:=fun h=>by
    have h3:x.toNat<y.toNat:=h1;have h4:y.toNat<x.toNat:=h;omega
   rw[if_pos h1,if_neg h2,if_pos h1]
  ·by_cases h2:y<x
   ·rw[if_neg h1,if_pos h2,if_pos h2];rfl
   ·rw[if_neg h1,if_neg h2,if_neg h2,if_neg h1,Zmg a b]
theorem Zjw:∀a b c:List UInt8,Lib.compareBytes a b = -1->Lib.compareBytes b c = -1->Lib.compareBytes a c = -1
 | [],[],_,h,_=>by cases h
 | [],_::_,[],_,h=>by cases h
 | [],_::_,_::_,_,_=>rfl
 | _::_,[],_,h,_=>by cases h
 | _::_,_::_,[],_,h=>by cases h
 | x::a,y::b,z::c,h1,h2=>by
  rw[Zd4]at h1 h2 ⊢;by_cases e1:x<y
  ·by_cases e2:y<z
   ·have:x<z:=by
     have h3:x.toNat<y.toNat:=e1;have h4:y.toNat<z.toNat:=e2;show x.toNat<z.toNat;omega
    rw[if_pos this]
   ·rw[if_neg e2]at h2;by_cases e3:z<y
    ·rw[if_pos e3]at h2;cases h2
    ·rw[<-Zme e2 e3,if_pos e1]
  ·rw[if_neg e1]at h1;by_cases e3:y<x
   ·rw[if_pos e3]at h1;cases h1
   ·rw[if_neg e3]at h1;obtain rfl:=Zme e1 e3;by_cases e2:x<z
    ·rw[if_pos e2]
    ·rw[if_neg e2]at h2 ⊢;by_cases e4:z<x
     ·rw[if_pos e4]at h2;cases h2
     ·rw[if_neg e4]at h2 ⊢;exact Zjw a b c h1 h2
theorem Zdm (a b:Int):cmpI a b = -1\/cmpI a b=0\/cmpI a b=1:=by
 unfold cmpI;split
 ·exact Or.inl rfl
 ·split
  ·exact Or.inr (Or.inr rfl)
  ·exact Or.inr (Or.inl rfl)
theorem Ze6 {a b:Int}(h:cmpI a b=0):a=b:=by
 unfold cmpI at h;split at h
 ·cases h
 ·split at h
  ·cases h
  ·omega
theorem Zir (a b:Int):cmpI a b = - cmpI b a:=by
 unfold cmpI;by_cases h1:a<b
 ·rw[if_pos h1,if_neg (by omega),if_pos h1]
 ·by_cases h2:b<a
  ·rw[if_neg h1,if_pos h2,if_pos h2];rfl
  ·rw[if_neg h1,if_neg h2,if_neg h2,if_neg h1];rfl
theorem cI_lt {a b:Int}:cmpI a b = -1↔a<b:=by
 unfold cmpI;split
 ·exact⟨fun _=>by assumption,fun _=>rfl⟩
 ·split
  ·exact⟨fun h=>(by cases h),fun h=>(by omega)⟩
  ·exact⟨fun h=>(by cases h),fun h=>(by omega)⟩
theorem Zba (x y:Ev):cmpE x y=if cmpI x.tick y.tick=0 then if cmpB x.src y.src=0 then cmpI x.num y.num else cmpB x.src y.src else cmpI x.tick y.tick:=by
 unfold cmpE;simp only[orL];by_cases h1:cmpI x.tick y.tick=0
 ·rw[if_pos h1,if_pos h1];by_cases h2:cmpB x.src y.src=0
  ·rw[if_pos h2,if_pos h2];by_cases h3:cmpI x.num y.num=0
   ·rw[if_pos h3,h3]
   ·rw[if_neg h3]
  ·rw[if_neg h2,if_neg h2]
 ·rw[if_neg h1,if_neg h1]
theorem Zgg (x y:Ev):cmpE x y = -1\/cmpE x y=0\/cmpE x y=1:=by
 rw[Zba];split
 ·split
  ·exact Zdm _ _
  ·exact Zjv _ _
 ·exact Zdm _ _
theorem Zgh (x y:Ev):cmpE x y = - cmpE y x:=by
 rw[Zba,Zba];have h1:=Zir x.tick y.tick;have h2:cmpB x.src y.src = - cmpB y.src x.src:=Zmg _ _;have h3:=Zir x.num y.num;by_cases e1:cmpI y.tick x.tick=0
 ·rw[if_pos (by omega),if_pos e1];by_cases e2:cmpB y.src x.src=0
  ·rw[if_pos (by omega),if_pos e2];exact h3
  ·rw[if_neg (by omega),if_neg e2];exact h2
 ·rw[if_neg (by omega),if_neg e1];exact h1
theorem Zmh {a b:ByteArray}(h:cmpB a b=0):a=b:=by
 have:=Zmf _ _ h;cases a;cases b;simp only[ByteArray.mk.injEq];exact Array.toList_inj.1 this
theorem Zis {x y:Ev}(h:cmpE x y=0):x.tick=y.tick/\x.src=y.src/\x.num=y.num:=by
 rw[Zba]at h;split at h
 ·rename_i h1
  split at h
  ·rename_i h2
   exact⟨Ze6 h1,Zmh h2,Ze6 h⟩
  ·contradiction
 ·contradiction
theorem Zgi (x:Ev):cmpE x x=0:=by
 have:=Zgh x x;omega
theorem cE_lt {x y:Ev}:cmpE x y<0↔cmpE x y = -1:=by
 have:=Zgg x y;omega
theorem Zjx {x y z:Ev}(h1:cmpE x y = -1)(h2:cmpE y z = -1):cmpE x z = -1:=by
 rw[Zba]at h1 h2 ⊢;have r1:=Zdm x.tick y.tick;have r2:=Zdm y.tick z.tick;by_cases e1:cmpI x.tick y.tick=0
 ·have t1:=Ze6 e1;rw[if_pos e1]at h1;rw[t1];by_cases e2:cmpI y.tick z.tick=0
  ·rw[if_pos e2]at h2 ⊢;by_cases e3:cmpB x.src y.src=0
   ·have t3:=Zmh e3;rw[if_pos e3]at h1;rw[t3];by_cases e4:cmpB y.src z.src=0
    ·rw[if_pos e4]at h2 ⊢;rw[cI_lt] at *;omega
    ·rw[if_neg e4]at h2 ⊢;exact h2
   ·rw[if_neg e3]at h1;by_cases e4:cmpB y.src z.src=0
    ·rw[<-Zmh e4,if_neg e3];exact h1
    ·rw[if_neg e4]at h2;have e5:cmpB x.src z.src = -1:=Zjw _ _ _ h1 h2;rw[if_neg (by omega)];exact e5
  ·rw[if_neg e2]at h2 ⊢;exact h2
 ·rw[if_neg e1]at h1;by_cases e2:cmpI y.tick z.tick=0
  ·rw[<-Ze6 e2,if_neg e1];exact h1
  ·rw[if_neg e2]at h2;rw[cI_lt]at h1 h2;have:cmpI x.tick z.tick = -1:=cI_lt.2 (by omega);rw[if_neg (by omega)];exact this
instance : Inhabited Ev := ⟨⟨⟨#[]⟩, 0, 0, 0, ⟨#[]⟩, ⟨#[]⟩, 0, ⟨#[]⟩⟩⟩
theorem Zti (x y:Ev):ltOf cmpE x y=true↔cmpE x y = -1:=by
 unfold ltOf;rw[decide_eq_true_eq];exact cE_lt
theorem cE_ge (x y:Ev):ltOf cmpE x y=false↔cmpE y x = -1\/cmpE x y=0:=by
 have h1:=Zgg x y;have h2:=Zgh x y;unfold ltOf;rw[decide_eq_false_iff_not];omega
theorem cE_zl {x y z:Ev}(h:cmpE x y=0):cmpE x z=cmpE y z:=by
 obtain⟨h1,h2,h3⟩:=Zis h;rw[Zba,Zba,h1,h2,h3]
theorem cE_zr {x y z:Ev}(h:cmpE y z=0):cmpE x y=cmpE x z:=by
 obtain⟨h1,h2,h3⟩:=Zis h;rw[Zba,Zba,h1,h2,h3]
theorem Zdn:SWO (ltOf cmpE):=by
 refine⟨fun x=>?_,fun x y z h1 h2=>?_,fun x y z h1 h2=>?_⟩
 ·rw[cE_ge];exact Or.inr (Zgi x)
 ·rw[Zti] at *;exact Zjx h1 h2
 ·rw[cE_ge] at *;rcases h1 with h1|h1
  ·rcases h2 with h2|h2
   ·exact Or.inl (Zjx h2 h1)
   ·exact Or.inl (by rw[<-cE_zl h2];exact h1)
  ·rw[cE_zl h1];rcases h2 with h2|h2
   ·exact Or.inl (by rw[cE_zr h1];exact h2)
   ·exact Or.inr h2
def SortedE (l:List Ev):Prop:=l.Pairwise fun a b=>cmpE a b = -1
def sameId (a b:Ev):Prop:=a.src=b.src/\a.num=b.num
def OneIds (l:List Ev):Prop:=l.Pairwise fun a b=>¬sameId a b
theorem Zmi {l:List Ev}(h:l.Pairwise fun a b=>ltOf cmpE b a=false)(ho:OneIds l):SortedE l:=by
 unfold SortedE;refine (h.and ho).imp ?_;intro a b hab;have h1:=(cE_ge b a).1 hab.1;rcases h1 with h1|h1
 ·exact h1
 ·obtain⟨_,e2,e3⟩:=Zis h1;exact absurd ⟨e2.symm,e3.symm⟩ hab.2
theorem Za3:∀{l l':List Ev},SortedE l->SortedE l'->(∀e,e∈l↔e∈l')->l=l'
 | [],[],_,_,_=>rfl
 | [],b::l',_,_,h=>absurd ((h b).2 (List.mem_cons_self ..)) (by simp)
 | a::l,[],_,_,h=>absurd ((h a).1 (List.mem_cons_self ..)) (by simp)
 | a::l,b::l',h1,h2,h=>by
  have p1:=List.pairwise_cons.1 h1;have p2:=List.pairwise_cons.1 h2;have hab:a=b:=by
   rcases List.mem_cons.1 ((h a).1 (List.mem_cons_self ..)) with e|e
   ·exact e
   ·rcases List.mem_cons.1 ((h b).2 (List.mem_cons_self ..)) with e2|e2
    ·exact e2.symm
    ·have q1:=p1.1 b e2;have q2:=p2.1 a e;have q3:=Zgh a b;omega
  subst hab;rw[Za3 p1.2 p2.2 (fun e=>?_)]
  constructor
  ·intro he;rcases List.mem_cons.1 ((h e).1 (List.mem_cons_of_mem _ he)) with e2|e2
   ·subst e2;have:=p1.1 e he;rw[Zgi]at this;omega
   ·exact e2
  ·intro he;rcases List.mem_cons.1 ((h e).2 (List.mem_cons_of_mem _ he)) with e2|e2
   ·subst e2;have:=p2.1 e he;rw[Zgi]at this;omega
   ·exact e2
end Go.Proofs.YtnpfaajhgghpgaaGreatDoor
namespace Go.Proofs.YtnpfaajhgghpgaaGreatDoor
open Go.RowKit Go.Maps
end Go.Proofs.YtnpfaajhgghpgaaGreatDoor
