/- A part of the joined base. -/
import Derived.Test.YthdmpcnnbminlaaGreatDoorV20
set_option linter.unusedVariables false
set_option maxHeartbeats 8000000
set_option maxRecDepth 100000
namespace Go.Proofs.YthdmpcnnbminlaaGreatDoor.Ru
open Go.RowKit Go.Maps Go.Shelf
theorem Zpo (n:Nat):∀ts:List Tk,ts.length≤n→ParOk 170 2 ts∧ParOk 81 0 ts:=by
 have lift:∀n,(∀ts:List Tk,ts.length≤n→ParOk 170 2 ts)→∀ts:List Tk,ts.length≤n→ParOk 81 0 ts:=fun n h ts hl=>
  or_of ts (fun ts' h'=>Ztw ts' (fun ts2 h2=>h ts2 (by omega)))
 induction n with
 | zero=>
  have h:∀ts:List Tk,ts.length≤0→ParOk 170 2 ts:=fun ts hl=>Zrk ts (fun ts' h'=>by omega) (fun ts' h'=>by omega)
  exact fun ts hl=>⟨h ts hl,lift 0 h ts hl⟩
 | succ n ih=>
  have h:∀ts:List Tk,ts.length≤n+1→ParOk 170 2 ts:=fun ts hl=>Zrk ts (fun ts' h'=>(ih ts' (by omega)).2) (fun ts' h'=>(ih ts' (by omega)).1)
  exact fun ts hl=>⟨h ts hl,lift (n+1) h ts hl⟩
theorem or_any (ts:List Tk):ParOk 81 0 ts:=(Zpo ts.length ts (zr _)).2
theorem Zh4 (s:ByteArray) (i fr:Nat):(wordT s i fr).length=if fr<i then 1 else 0:=by
 unfold wordT
 split <;> rfl
theorem Zg1 (s:ByteArray):∀(f i fr:Nat),f=s.size - i→fr≤i→i≤s.size→(tokF s f i fr).length≤s.size - fr
 | 0,i,fr,hf,h1,h2=>by
  rw[tokF,Zh4]
  split <;> omega
 | f+1,i,fr,hf,h1,h2=>by
  rw[tokF]
  split
  ·rw[List.length_append,List.length_append,Zh4]
   have h3:=Zg1 s f (i+1) (i+1) (by omega) (zr _) (by omega)
   have h4:(signT s i).length≤1:=by unfold signT;split <;> simp
   split <;> omega
  ·exact Zg1 s f (i+1) fr (by omega) (by omega) (by omega)
theorem Zpp (s:ByteArray):(toks s).length≤s.size:=Zg1 s _ 0 0 rfl (zr _) (Nat.zero_le _)
theorem Zg2 (s:ByteArray):∀(f i fr:Nat),∀t∈tokF s f i fr,t.1.size≤s.size
 | 0,i,fr,t,ht=>by
  rw[tokF]at ht
  unfold wordT at ht
  split at ht
  ·rw[List.mem_singleton]at ht;subst ht;simp[ByteArray.size_extract];omega
  ·cases ht
 | f+1,i,fr,t,ht=>by
  rw[tokF]at ht
  split at ht
  ·rcases List.mem_append.1 ht with ht|ht
   ·rcases List.mem_append.1 ht with ht|ht
    ·unfold wordT at ht
     split at ht
     ·rw[List.mem_singleton]at ht;subst ht;simp[ByteArray.size_extract];omega
     ·cases ht
    ·unfold signT at ht
     split at ht
     ·cases ht
     ·rw[List.mem_singleton]at ht;subst ht;simp[ByteArray.size_extract];omega
   ·exact Zg2 s f _ _ t ht
  ·exact Zg2 s f _ _ t ht
theorem Zpq (s:ByteArray):∀t∈toks s,t.1.size≤s.size:=Zg2 s _ 0 0
inductive Says (s:ByteArray):Option (Option Nd)→Nat→Prop
 | long (h:2000<s.size):Says s none 0
 | empty (h:s.size≤2000) (h0:toks s = []):Says s (some none) 0
 | good {ns:List Nd} (h:s.size≤2000) (h0:toks s≠[]) (hp:P 0 0 (tx (toks s)) true [] ns):Says s (some (some (nodeOf 0 ns))) 0
 | bad {ok:Bool} {j:Nat} {ns:List Nd} (h:s.size≤2000) (h0:toks s≠[]) (hp:P 0 0 (tx (toks s)) ok (tx ((toks s).drop j)) ns) (hn:ok=false∨(toks s).drop j≠[]):Says s none (place ((toks s).drop j) s.size)
def errOf (r:Option (Option Nd)):Int:=if r.isNone then 11 else 0
def RuleV (w:World) (B:Nat):Option (Option Nd)→Value→Prop
 | none,v=>v = .pointer none
 | some none,v=>∃g,v = .pointer (some ⟨g,0,none⟩)∧B≤g∧Blk w g 121 #[.nilIface]
 | some (some n),v=>NF n∧∃g u,v = .pointer (some ⟨g,0,none⟩)∧B≤g∧Blk w g 121 #[u]∧NdAt w B n u
theorem RuleV.keep {w w':World} {B:Nat} {r:Option (Option Nd)} {v:Value} (h:RuleV w B r v) (hs:w.heap.size≤w'.heap.size) (hb:∀i,i<w.heap.size→B≤i→w'.heap[i]? = w.heap[i]?):RuleV w' B r v:=by
 match r,h with
 | none,h=>exact h
 | some none,⟨g,e,hg,hB⟩=>exact⟨g,e,hg,(hb g hB.lt hg).trans hB⟩
 | some (some n),⟨hn,g,u,e,hg,hB,hu⟩=>exact⟨hn,g,u,e,hg,(hb g hB.lt hg).trans hB,hu.keep hs hb⟩
theorem RuleV.below {w w':World} {B:Nat} {r:Option (Option Nd)} {v:Value} (h:RuleV w B r v) (hb:Below w.heap.size w w'):RuleV w' B r v:=h.keep hb.size (fun i hi _=>hb.block i hi)
def ParseR (s:ByteArray) (w:World) (e:Ending) (w':World):Prop:=∃r at_ v,Says s r at_∧e = .returned (.tuple #[v,.int .i64 (at_:Nat),.int .i64 (errOf r)])∧RuleV w' w.heap.size r v∧Below w.heap.size w w'
theorem parse_any (s:ByteArray) (w:World) (hs:s.size≤1000000) (hge:∀V,Below w.heap.size w V→ErrAt V∧TabAt V) :
  Calls Tryz.prog 43 #[.string s] w fun e w'=>ParseR s w e w':=by
 have HGE:=zh hge
 have HTK:=zh (Zlg s w hs)
 have HL:=zh (Zpp s)
 have HM:=zh (Zpq s)
 obtain⟨n,hn⟩:∃n,(toks s).length=n:=⟨_,rfl⟩
 rw[hn]at HTK HL
 have HN:=zh hn
 clear hge hn
 go_enter Tryz.func43,Tryz.ntmps43
 by_cases h2:2000<s.size
 ·have HF:Hid (ParseR s w (.returned (.tuple #[.pointer none,.int .i64 0,.int .i64 11])) w):=zh ⟨none,0,_,.long h2,rfl,rfl,Below.refl _ _⟩
  have q1:(2000:Int)<(s.size:Int):=by omega
  clear h2 HTK
  go_wp2_with fail
  go_ret3
  exact HF.o
 have q1:¬(2000:Int)<(s.size:Int):=by omega
 go_wp2_with fail
 refine HTK.o.mono ?_
 rintro e w1 ⟨A,c,rfl,hown,hb1⟩
 have HB1:=zh hb1
 obtain⟨w2,hw2⟩:∃w2,w1.alloc (.cells #[.slice A n c,.int .i64 s.size,.int .i64 0,.bool false,.int .i64 0] 155)=w2:=⟨_,rfl⟩
 have hb2:Below w1.heap.size w1 w2:=by rw[←hw2];exact (Below.refl _ _).alloc (zr _) _
 have HB2:Hid (Below w.heap.size w w2):=zh (hb1.trans (hb2.mono hb1.size))
 have hz2:w2.heap.size=w1.heap.size+1:=by rw[←hw2];simp
 have HPS:Hid (PsAt w2 w1.heap.size w1.heap.size (toks s) s.size 0 false 0):=zh (by
  have hown2:w2.ownsRow w.heap.size 197 2 (.slice A n c) n ((toks s).flatMap tkC):=Za9 hown hb2
  refine⟨A,n,c,by rw[←hw2];exact Blk.new _ _ _,RowIn.of_own hown2,HN.o,?_,fun g o e=>?_⟩
  ·rcases hown.2 with ⟨h,h0⟩|⟨g,cap,cur,h,_,_,hcap,_⟩
   ·rw[h0];exact Nat.zero_le _
   ·injection h with _ _ h;omega
  ·have:=(hown.lt g (by rw[e];rfl)).2
   exact⟨by omega,this⟩)
 have c0:w2.cell? ⟨w1.heap.size,0,none⟩=some (.slice A n c):=by rw[←hw2];exact (Blk.new _ _ _).cell 0
 have HZ2:=zh hz2
 clear hown hb1 hb2 hz2 HTK
 by_cases h0:n=0
 ·have h00:toks s = []:=List.length_eq_zero_iff.1 (HN.o.trans h0)
  have hn0:(n:Int)=0:=by omega
  obtain⟨w3,hw3⟩:∃w3,w2.alloc (.cells #[.nilIface] 121)=w3:=⟨_,rfl⟩
  have HF:Hid (ParseR s w (.returned (.tuple #[.pointer (some ⟨w2.heap.size,0,none⟩),.int .i64 0,.int .i64 0])) w3):=zh (by
   have hb3:Below w2.heap.size w2 w3:=by rw[←hw3];exact (Below.refl _ _).alloc (zr _) _
   exact⟨some none,0,_,.empty (by omega) h00,rfl,⟨_,rfl,HB2.o.size,by rw[←hw3];exact Blk.new _ _ _⟩,HB2.o.trans (hb3.mono HB2.o.size)⟩)
  clear h00 h0
  go_wp2_with fail
  go_ret3
  exact HF.o
 have hne:toks s≠[]:=fun h=>h0 (by rw[←HN.o,h];rfl)
 have HNE:=zh hne
 have hn0:¬(n:Int)=0:=by omega
 have HOR:=zh (or_any (toks s) w2.heap.size w1.heap.size w1.heap.size s.size 0 0 w2 (by have:=HZ2.o;omega) (by have:=HZ2.o;omega) (zr _) (by omega) (by have:=HL.o;have:=HN.o;omega) (fun t ht=>by have:=HM.o t ht;omega) HPS.o (fun V hV=>HGE.o V (HB2.o.trans (hV.mono HB1.o.size))))
 clear hne h0
 go_wp2_with fail
 clear hw2 c0
 refine HOR.o.mono ?_
 rintro e w4 ⟨v,ok,ts1,ns,at1,rfl,hpi⟩
 have HPI:=zh hpi
 have hvf:=Zdv hpi.okv
 obtain⟨A4,n4,c4,hps⟩:=hpi.ps
 have k0:w4.cell? ⟨w1.heap.size,0,none⟩=some (.slice A4 n4 c4):=hps.blk.cell 0
 have k3:w4.cell? ⟨w1.heap.size,3,none⟩=some (.bool (!ok)):=hps.blk.cell 3
 have k4:w4.cell? ⟨w1.heap.size,4,none⟩=some (.int .i64 at1):=hps.blk.cell 4
 have HL4:=zh hps.len
 have HB4:Hid (Below w.heap.size w w4):=zh ((HB2.o.trans (hpi.kept.toBelow (B:=w.heap.size) (fun i hi=>by have:=HB1.o.size;omega) HB2.o.size)))
 clear hpi hps HOR
 cases ok
 ·have HF:Hid (∀q,ParseR s w (.returned (.tuple #[.pointer none,.int .i64 at1,.int .i64 11])) (w4.drewN q)):=zh (fun q=>by
   obtain⟨j,hj⟩:=HPI.o.drop
   have hp:=HPI.o.par
   have ha:=HPI.o.at1
   rw[hj]at hp ha
   simp at ha
   exact⟨none,at1,_,by rw[ha];exact .bad (by omega) HNE.o hp (Or.inl rfl),rfl,rfl,below_drewN HB4.o q⟩)
  simp only[Bool.not_false]at k3
  clear HPI
  rcases hvf with rfl|⟨tv,xv,rfl⟩
  ·go_wp2_with fail
   go_quiet (fail)
   go_wp2_with fail
   go_ret3
   exact HF.o _
  ·go_wp2_with fail
   go_quiet (fail)
   go_wp2_with fail
   go_ret3
   exact HF.o _
 simp only[Bool.not_true]at k3
 cases ts1 with
 | nil=>
  obtain rfl:n4=0:=HL4.o.symm
  obtain⟨w5,hw5⟩:∃w5,w4.alloc (.cells #[v] 121)=w5:=⟨_,rfl⟩
  have HF:Hid (ParseR s w (.returned (.tuple #[.pointer (some ⟨w4.heap.size,0,none⟩),.int .i64 0,.int .i64 0])) w5):=zh (by
   have hb5:Below w4.heap.size w4 w5:=by rw[←hw5];exact (Below.refl _ _).alloc (zr _) _
   have hp:=HPI.o.par
   have hnf:=hp.nf rfl
   refine⟨_,0,_,.good (by omega) HNE.o hp,rfl,⟨Zcv hnf.1 hnf.2,w4.heap.size,v,rfl,HB4.o.size,by rw[←hw5];exact Blk.new _ _ _,?_⟩,HB4.o.trans (hb5.mono HB4.o.size)⟩
   exact ((HPI.o.nd rfl).under hb5).low HB2.o.size)
  clear HPI
  rcases hvf with rfl|⟨tv,xv,rfl⟩
  ·go_wp2_with fail
   go_ret3
   exact HF.o
  ·go_wp2_with fail
   go_ret3
   exact HF.o
 | cons t r=>
  have hn4:(0:Int)<(n4:Int):=by have:=HL4.o;simp at this;omega
  have HFL:=zh (Zev w1.heap.size s.size 0 at1 (t::r) w4 HPI.o.ps)
  have HF:Hid (∀w',Kept (fun i=>i=w1.heap.size) w4 w'→∀q,ParseR s w (.returned (.tuple #[.pointer none,.int .i64 (place (t::r) s.size:Nat),.int .i64 11])) (w'.drewN q)):=zh (fun w' hk q=>by
   obtain⟨j,hj⟩:=HPI.o.drop
   have hp:=HPI.o.par
   rw[hj]at hp ⊢
   exact⟨none,_,_,.bad (by omega) HNE.o hp (Or.inr (by rw[←hj];simp)),rfl,rfl,below_drewN (HB4.o.trans (hk.toBelow (B:=w.heap.size) (fun i hi=>by have:=HB1.o.size;omega) HB4.o.size)) q⟩)
  clear HPI
  rcases hvf with rfl|⟨tv,xv,rfl⟩
  ·go_wp2_with fail
   refine HFL.o.mono ?_
   rintro e w5 ⟨rfl,hp5,hk5⟩
   have HX:=zh (HF.o w5 hk5)
   obtain⟨A5,n5,c5,hps⟩:=hp5
   have m3:w5.cell? ⟨w1.heap.size,3,none⟩=some (.bool true):=hps.blk.cell 3
   have m4:w5.cell? ⟨w1.heap.size,4,none⟩=some (.int .i64 (place (t::r) s.size:Nat)):=hps.blk.cell 4
   clear hps hk5 HFL HF
   go_wp2_with fail
   go_quiet (fail)
   go_wp2_with fail
   go_ret3
   exact HX.o _
  ·go_wp2_with fail
   refine HFL.o.mono ?_
   rintro e w5 ⟨rfl,hp5,hk5⟩
   have HX:=zh (HF.o w5 hk5)
   obtain⟨A5,n5,c5,hps⟩:=hp5
   have m3:w5.cell? ⟨w1.heap.size,3,none⟩=some (.bool true):=hps.blk.cell 3
   have m4:w5.cell? ⟨w1.heap.size,4,none⟩=some (.int .i64 (place (t::r) s.size:Nat)):=hps.blk.cell 4
   clear hps hk5 HFL HF
   go_wp2_with fail
   go_quiet (fail)
   go_wp2_with fail
   go_ret3
   exact HX.o _
end Go.Proofs.YthdmpcnnbminlaaGreatDoor.Ru
namespace Go.Proofs.YthdmpcnnbminlaaGreatDoor.Ru
open Go.RowKit Go.Maps Go.Shelf
theorem bx:Builder.Extra Tryz.prog Tryz.lays156_ren where
 sizeBuilder:=by kernel_rfl
 liesBuilder:=by kernel_rfl
 t5:=Tryz.underlying5
 a5:=Tryz.isAgg5
 z5:=Tryz.sizeOf5
 v5:=Tryz.zeroValue5
 infoByte:=by kernel_rfl
 cellsByte:=by kernel_rfl
 sizeByte:=by kernel_rfl
 neB5:=by decide
theorem Zpr (bk o c:Nat) (xs:List ByteArray) (sep:ByteArray) (w:World) (hcells:∀(j:Nat) x,xs[j]? = some x→w.cell? ⟨bk,o+j,none⟩=some (.string x)) (hbk:bk<w.heap.size) (hN:xs.length≤140737488355328) (hcap:xs.length≤c) (hlen:(Lib.join (xs.map (·.data.toList)) sep.data.toList).length≤140737488355328) :
  Calls Tryz.prog 97 #[.slice (some ⟨bk,o,none⟩) xs.length c,.string sep] w fun e w'=>e = .returned (.string ⟨(Lib.join (xs.map (·.data.toList)) sep.data.toList).toArray⟩)∧Below w.heap.size w w':=
 Any.strings_Join Tryz.lays156 bx bk o c xs sep w hcells hbk hN hcap hlen
def ownB (n:Nd) (wi:Nat):ByteArray:=⟨(ownN n wi).toArray⟩
theorem Zkl {n:Nd} (h:NF n):∀wi,1≤(ownN n wi).length:=by
 induction h with
 | @atom a h=>
  intro wi
  rw[ownN]
  cases a with
  | follows=>simp[leafT,followsW]
  | done=>simp[leafT,doneW]
  | tag x=>simp only[leafT,Za6,List.length_append];simp[tagW];omega
  | maker x=>simp only[leafT,Za6,List.length_append];simp[makerW];omega
  | num k less n=>simp only[leafT,Za6,List.length_append];rcases Zd7 less with ⟨e,_⟩|⟨e,_⟩ <;> rw[e] <;> simp <;> omega
 | no h ih=>intro wi;rw[ownN];simp;omega
 | @row k l hk h hf hl ih=>
  intro wi
  cases l with
  | nil=>simp at hl
  | cons n l=>
   have:=ih n (by simp) (k+1)
   rw[ownN]
   split <;> simp[ownL] <;> omega
end Go.Proofs.YthdmpcnnbminlaaGreatDoor.Ru
namespace Go.Proofs.YthdmpcnnbminlaaGreatDoor.Ru
open Go.RowKit Go.Maps Go.Shelf
theorem Zm9 (n:Nd) (k:Nat):(ownB n k).size=(ownN n k).length:=by unfold ownB;show ((ownN n k).toArray).size=_;rw[List.size_toArray]
def ruleT:Option Nd→ByteArray
 | none=>⟨#[]⟩
 | some n=>ownB n 0
end Go.Proofs.YthdmpcnnbminlaaGreatDoor.Ru
namespace Go.Proofs.YthdmpcnnbminlaaGreatDoor.Ru
def fl (acc:List UInt8):List ByteArray:=if acc = [] then [] else [⟨acc.toArray⟩]
def sg (b:UInt8):List ByteArray:=if b=32 then [] else [⟨#[b]⟩]
def tkA:List UInt8→List UInt8→List ByteArray
 | acc,[]=>fl acc
 | acc,b::l=>if isD b=true then fl acc++(sg b++tkA [] l) else tkA (acc++[b]) l
def tkS (s:ByteArray):List ByteArray:=tkA [] s.data.toList
theorem Zkm (s:ByteArray) (i j:Nat):(s.extract i j).data.toList=(s.data.toList.drop i).take (j - i):=by
 simp[List.extract_eq_take_drop]
theorem Zrl {s:ByteArray} {i fr:Nat} (h1:fr≤i) (h2:i≤s.size):tx (wordT s i fr)=fl ((s.data.toList.drop fr).take (i - fr)):=by
 have hl:s.data.toList.length=s.size:=by simp
 unfold wordT fl
 by_cases h:fr<i
 ·rw[if_pos h,if_neg (by
   intro e
   have:=congrArg List.length e
   rw[List.length_take,List.length_drop,hl]at this
   simp at this
   omega)]
  show [s.extract fr i]=_
  congr 1
  refine Za5 ?_
  rw[Zkm]
 ·rw[if_neg h,if_pos (by rw[show i - fr=0 by omega];rfl)]
  rfl
theorem Zi7 (s:ByteArray):∀(f i fr:Nat),f=s.size - i→fr≤i→i≤s.size→tx (tokF s f i fr)=tkA ((s.data.toList.drop fr).take (i - fr)) (s.data.toList.drop i)
 | 0,i,fr,hf,h1,h2=>by
  have hl:s.data.toList.length=s.size:=by simp
  have h0:s.data.toList.drop i = []:=List.drop_eq_nil_of_le (by omega)
  rw[tokF,Zrl h1 h2,h0,tkA]
 | f+1,i,fr,hf,h1,h2=>by
  have hl:s.data.toList.length=s.size:=by simp
  have hi:i<s.data.toList.length:=by omega
  have hd:s.data.toList.drop i=byteAt s i::s.data.toList.drop (i+1):=by
   rw[List.drop_eq_getElem_cons hi]
   unfold byteAt
   rw[List.getD_eq_getElem?_getD,List.getElem?_eq_getElem hi]
   rfl
  rw[tokF,hd,tkA]
  by_cases hb:isD (byteAt s i)=true
  ·rw[if_pos hb,if_pos hb]
   have ih:=Zi7 s f (i+1) (i+1) (by omega) (zr _) (by omega)
   rw[Nat.sub_self,List.take_zero]at ih
   rw[←ih,←Zrl h1 h2]
   have h3:tx (signT s i)=sg (byteAt s i):=by
    unfold signT sg
    by_cases h32:byteAt s i=32
    ·rw[if_pos h32,if_pos h32];rfl
    ·rw[if_neg h32,if_neg h32]
     show [s.extract i (i+1)]=_
     congr 1
     refine Za5 ?_
     rw[Zkm,hd,show i+1 - i=1 by omega]
     rfl
   rw[←h3]
   simp[tx]
  ·rw[if_neg hb,if_neg hb,Zi7 s f (i+1) fr (by omega) (by omega) (by omega)]
   congr 1
   rw[show i+1 - fr=(i - fr)+1 by omega,List.take_add_one]
   congr 1
   rw[List.getElem?_drop,show fr+(i - fr)=i by omega,List.getElem?_eq_getElem hi]
   unfold byteAt
   rw[List.getD_eq_getElem?_getD,List.getElem?_eq_getElem hi]
   rfl
theorem Zi8 (s:ByteArray):tx (toks s)=tkS s:=by
 unfold toks tokR tkS
 rw[Zi7 s _ 0 0 rfl (zr _) (Nat.zero_le _)]
 rfl
theorem Zez {s:ByteArray}:toks s = []↔tkS s = []:=by
 rw[←Zi8]
 unfold tx
 rw[List.map_eq_nil_iff]
def szL (L:List ByteArray):Nat:=(L.map ByteArray.size).sum
theorem Zna (a b:List ByteArray):szL (a++b)=szL a+szL b:=by unfold szL;rw[List.map_append,List.sum_append]
theorem Zg3 (a:ByteArray) (b:List ByteArray):szL (a::b)=a.size+szL b:=by unfold szL;rw[List.map_cons,List.sum_cons]
theorem fl_sz (acc:List UInt8):szL (fl acc)=acc.length:=by
 unfold fl
 split
 ·rename_i h;subst h;rfl
 ·rw[Zg3];show acc.toArray.size+0=_;simp
theorem Znb:∀(l acc:List UInt8),szL (tkA acc l)≤acc.length+l.length
 | [],acc=>by rw[tkA,fl_sz];simp
 | b::l,acc=>by
  rw[tkA]
  split
  ·rw[Zna,Zna,fl_sz]
   have:=Znb l []
   have h2:szL (sg b)≤1:=by
    unfold sg
    split
    ·exact Nat.zero_le _
    ·rw[Zg3];exact zr _
   simp at this ⊢
   omega
  ·have:=Znb l (acc++[b])
   simp at this ⊢
   omega
theorem Zsl {a:Leaf} (h:LeafOk a):(leafT a).data.toList≠[]:=by
 intro e
 exact Zcm (w:=leafT a) (by right;right;right;right;right;exact Za5 e) a ⟨h,rfl⟩
mutual
def tkN:Nd→Nat→List ByteArray
 | .atom a,_=>[leafT a]
 | .no n,_=>notW::tkN n 3
 | .row k l,wi=>if k+1<wi then openW::(tkL l k++[closeW]) else tkL l k
def tkL:List Nd→Nat→List ByteArray
 | [],_=>[]
 | n::l,k=>tkN n (k+1)++tkM l k
def tkM:List Nd→Nat→List ByteArray
 | [],_=>[]
 | n::l,k=>wordOf k::(tkN n (k+1)++tkM l k)
end
end Go.Proofs.YthdmpcnnbminlaaGreatDoor.Ru
namespace Go.Proofs.YthdmpcnnbminlaaGreatDoor.Ru
mutual
def dep:Nd→Nat→Nat
 | .atom _,_=>0
 | .no n,_=>dep n 3
 | .row k l,wi=>if k+1<wi then 1+depL l k else depL l k
def depL:List Nd→Nat→Nat
 | [],_=>0
 | n::l,k=>max (dep n (k+1)) (depL l k)
end
theorem Zkn {k:Nat}:∀{l:List Nd} {n:Nd},n∈l→dep n (k+1)≤depL l k
 | m::l,n,h=>by
  rw[depL]
  rcases List.mem_cons.1 h with rfl|h
  ·exact Nat.le_max_left _ _
  ·exact Nat.le_trans (Zkn h) (Nat.le_max_right _ _)
theorem Zdw (n:Nd) {a b:Nat} (h:a≤b):(ownN n a).length≤(ownN n b).length:=by
 cases n with
 | atom a=>simp[ownN]
 | no n=>simp[ownN]
 | row k l=>
  rw[ownN,ownN]
  split <;> split <;> simp <;> omega
theorem Zsm (n:Nd) (a b:Nat):(ownN n a).length≤(ownN n b).length+2:=by
 cases n with
 | atom a=>simp[ownN]
 | no n=>simp[ownN]
 | row k l=>
  rw[ownN,ownN]
  split <;> split <;> simp <;> omega
def lenM (k wi:Nat) (l:List Nd):Nat:=(l.map (fun n=>(ownN n wi).length+(sepW k).length)).sum
theorem Zbu (k wi:Nat) (n:Nd) (l:List Nd):lenM k wi (n::l)=(ownN n wi).length+(sepW k).length+lenM k wi l:=by unfold lenM;rw[List.map_cons,List.sum_cons]
theorem Zps (k wi:Nat) (a b:List Nd):lenM k wi (a++b)=lenM k wi a+lenM k wi b:=by unfold lenM;rw[List.map_append,List.sum_append]
theorem Zh5 (k:Nat):∀l:List Nd,(ownM l k).length=lenM k (k+1) l
 | []=>by rw[ownM];rfl
 | n::l=>by rw[ownM,Zbu,List.length_append,List.length_append,Zh5 k l];omega
theorem Zh6 (k:Nat) (l:List Nd) (h:l≠[]):(ownL l k).length+(sepW k).length=lenM k (k+1) l:=by
 cases l with
 | nil=>exact absurd rfl h
 | cons n l=>rw[ownL,Zbu,List.length_append,Zh5];omega
theorem parts_len {k:Nat} {n:Nd} (h:NF n):lenM k (k+1) (parts' k n)≤(ownN n (k+2)).length+(sepW k).length:=by
 have h0:∀n:Nd,lenM k (k+1) [n]≤(ownN n (k+2)).length+(sepW k).length:=fun n=>by
  rw[Zbu]
  have:=Zdw n (show k+1≤k+2 by omega)
  show _+0≤_
  omega
 cases h with
 | atom h=>exact h0 _
 | no h=>exact h0 _
 | @row k' l hk h hf hl=>
  simp only[parts']
  by_cases e:k'=k
  ·rw[if_pos e]
   subst e
   rw[←Zh6 k' l (by intro e2;rw[e2]at hl;simp at hl),ownN,if_pos (by omega)]
   simp
   omega
  ·rw[if_neg e]
   exact h0 _
theorem Zf1 {k:Nat}:∀{ns:List Nd},(∀n∈ns,NF n)→lenM k (k+1) (ns.flatMap (parts' k))≤lenM k (k+2) ns
 | [],_=>zr _
 | n::ns,h=>by
  rw[List.flatMap_cons,Zps,Zbu]
  have h1:=parts_len (k:=k) (h n (by simp))
  have h2:=Zf1 (k:=k) (ns:=ns) (fun x hx=>h x (by simp[hx]))
  omega
theorem Zec {k:Nat} {ns:List Nd} (hk:k<2) (hne:ns≠[]) (hnf:∀n∈ns,NF n):(ownN (nodeOf k ns) (k+1)).length+(sepW k).length≤lenM k (k+2) ns:=by
 unfold nodeOf
 rw[if_pos hk]
 have h1:=Zf1 (k:=k) hnf
 generalize hg:ns.flatMap (parts' k)=l at h1
 match l,h1 with
 | [],h1=>
  exfalso
  obtain⟨n,r,rfl⟩:=List.exists_cons_of_ne_nil hne
  rw[List.flatMap_cons]at hg
  exact Zkf (k:=k) (hnf n (by simp)) (List.append_eq_nil_iff.1 hg).1
 | [n],h1=>
  rw[Zbu]at h1
  show (ownN n (k+1)).length+_≤_
  have:lenM k (k+1) []=0:=rfl
  omega
 | a::b::r,h1=>
  show (ownN (.row k (a::b::r)) (k+1)).length+_≤_
  rw[ownN,if_neg (by omega)]
  have:=Zh6 k (a::b::r) (by simp)
  omega
theorem Zsn {k:Nat} (hk:k<2):(sepW k).length≤2*(wordOf k).size∧(sepW k).length=(wordOf k).size+2:=by
 rcases (show k=0∨k=1 by omega) with rfl|rfl <;> decide
theorem hd_sz {L:List ByteArray} {c:ByteArray} (h:hd L=c) (hc:c≠⟨#[]⟩):szL L=c.size+szL L.tail:=by
 cases L with
 | nil=>exact absurd h.symm hc
 | cons a r=>
  have h1:a=c:=h
  subst h1
  exact Zg3 _ _
theorem P.len {k d:Nat} {L L1:List ByteArray} {ok:Bool} {ns:List Nd} (h:P k d L ok L1 ns):ok=true→k≤2→(k<2→lenM k (k+2) ns+2*szL L1≤2*szL L+(sepW k).length)∧(k=2→(ownN (nodeOf 2 ns) 3).length+2*szL L1≤2*szL L):=by
 have up:∀{k d:Nat} {L L1:List ByteArray} {ns:List Nd},k<2→P (k+1) d L true L1 ns→((k+1<2→lenM (k+1) (k+1+2) ns+2*szL L1≤2*szL L+(sepW (k+1)).length)∧(k+1=2→(ownN (nodeOf 2 ns) 3).length+2*szL L1≤2*szL L))→(ownN (nodeOf (k+1) ns) (k+2)).length+2*szL L1≤2*szL L:=fun {k d L L1 ns} hk hp hi=>by
  by_cases h1:k+1<2
  ·have h2:=hi.1 h1
   have h3:=Zec h1 (hp.nf rfl).1 (hp.nf rfl).2
   rw[show k+1+1=k+2 by omega]at h3
   omega
  ·obtain rfl:k=1:=by omega
   exact hi.2 rfl
 induction h with
 | @rlast k d L L1 ok ns hk h hn ih=>
  intro ho h2
  subst ho
  refine⟨fun _=>?_,fun e=>by omega⟩
  have:=up hk h (ih rfl (by omega))
  rw[Zbu]
  have h0:lenM k (k+2) []=0:=rfl
  omega
 | @rmore k d L L1 L2 ok ns ns2 hk h hw h2 ih ih2=>
  intro ho h2'
  subst ho
  refine⟨fun _=>?_,fun e=>by omega⟩
  have h3:=up hk h (ih rfl (by omega))
  have h4:=(ih2 rfl (by omega)).1 hk
  rw[Zbu]
  have h5:=hd_sz hw (by rcases (show k=0∨k=1 by omega) with rfl|rfl <;> decide)
  have h6:=(Zsn hk).1
  omega
 | @no d L L1 ok ns hw h ih=>
  intro ho h2
  subst ho
  refine⟨fun e=>by omega,fun _=>?_⟩
  have h3:=(ih rfl (by omega)).2 rfl
  have h4:=hd_sz hw (by decide)
  show (ownN (.no (nodeOf 2 ns)) 3).length+_≤_
  rw[ownN]
  have h5:notW.size=3:=rfl
  have h6:notW.data.toList.length=3:=rfl
  simp only[List.length_append,List.length_singleton]
  omega
 | @open_ d L L1 ns hw hd' h hc ih=>
  intro ho h2
  refine⟨fun e=>by omega,fun _=>?_⟩
  have h3:=(ih rfl (by omega)).1 (by omega)
  have h4:=hd_sz hw (by decide)
  have h5:=hd_sz hc (by decide)
  have h6:openW.size=1:=rfl
  have h7:closeW.size=1:=rfl
  have h8:=Zec (k:=0) (by omega) (h.nf rfl).1 (h.nf rfl).2
  have h9:=Zsm (nodeOf 0 ns) 3 (0+1)
  show (ownN (nodeOf 0 ns) 3).length+_≤_
  omega
 | openBad hw hd' h hc ih=>intro ho;cases ho
 | @leaf d L a h=>
  intro ho h2
  refine⟨fun e=>by omega,fun _=>?_⟩
  have h4:=hd_sz (L:=L) (c:=leafT a) h.2 (by intro e;exact Zsl h.1 (by rw[e]))
  show (ownN (.atom a) 3).length+_≤_
  rw[ownN]
  have h5:(leafT a).data.toList.length=(leafT a).size:=by simp
  have h6:szL L.tail≤szL L:=by omega
  omega
 | bad h1 h2 h3=>intro ho;cases ho
def Again (n:Nd) (k d:Nat) (T rest:List ByteArray):Prop:=∃ns,P k d (T++rest) true rest ns∧nodeOf k ns=n
def Stop (k:Nat) (rest:List ByteArray):Prop:=∀j,k≤j→j<2→hd rest≠wordOf j
theorem Again.lift {n:Nd} {k d:Nat} {T rest:List ByteArray} (hk:k<2) (h:Again n (k+1) d T rest) (hs:Stop k rest) (hn:∀l,n≠.row k l):Again n k d T rest:=by
 obtain⟨ns,h1,h2⟩:=h
 refine⟨_,.rlast hk h1 (Or.inr (hs k (zr _) hk)),?_⟩
 rw[h2]
 unfold nodeOf
 rw[if_pos hk]
 cases n with
 | atom a=>rfl
 | no n=>rfl
 | row k' l=>
  have e:k'≠k:=by rintro rfl;exact hn l rfl
  simp[parts',e,mkRow]
theorem Again.brackets {n:Nd} {d:Nat} {T rest:List ByteArray} (hd:d<40) (h:Again n 0 (d+1) T (closeW::rest)):Again n 2 d (openW::(T++[closeW])) rest:=by
 obtain⟨ns,h1,h2⟩:=h
 refine⟨[nodeOf 0 ns],?_,by rw[h2];rfl⟩
 have h3:P 0 (d+1) ((openW::(T++[closeW]))++rest).tail true (closeW::rest) ns:=by
  have e:((openW::(T++[closeW]))++rest).tail=T++closeW::rest:=by simp
  rw[e]
  exact h1
 exact .open_ rfl hd h3 rfl
theorem Zlh (rest:List ByteArray) (k:Nat):Stop k (closeW::rest):=fun j _ h=>by
 show closeW≠wordOf j
 rcases (show j=0∨j=1 by omega) with rfl|rfl <;> decide
theorem Zrm {k d:Nat} (hk:k<2):∀(l:List Nd) (n:Nd) (rest:List ByteArray),(∀m∈n::l,∀r,Stop (k+1) r→Again m (k+1) d (tkN m (k+1)) r)→Stop k rest→P k d (tkN n (k+1)++(tkM l k++rest)) true rest (n::l)
 | [],n,rest,h,hs=>by
  rw[tkM,List.nil_append]
  obtain⟨ns,h1,h2⟩:=h n (by simp) rest (fun j h1 h2=>hs j (by omega) h2)
  have:=P.rlast hk h1 (Or.inr (hs k (zr _) hk))
  rw[h2]at this
  exact this
 | m::l,n,rest,h,hs=>by
  have h3:=Zrm hk l m rest (fun x hx=>h x (by simp[hx])) hs
  rw[tkM]
  have hst:Stop (k+1) (wordOf k::(tkN m (k+1)++tkM l k)++rest):=fun j hj1 hj2=>by
   obtain rfl:k=0:=by omega
   obtain rfl:j=1:=by omega
   show orW≠andW
   decide
  obtain⟨ns,h1,h2⟩:=h n (by simp) _ hst
  have h4:P k d (wordOf k::(tkN m (k+1)++tkM l k)++rest).tail true rest (m::l):=by
   have e:(wordOf k::(tkN m (k+1)++tkM l k)++rest).tail=tkN m (k+1)++(tkM l k++rest):=by simp
   rw[e]
   exact h3
  have:=P.rmore hk h1 rfl h4
  rw[h2]at this
  exact this
theorem Zh7 {k:Nat}:∀{l:List Nd},(∀n∈l,∀l',n≠.row k l')→l.flatMap (parts' k)=l
 | [],_=>rfl
 | n::l,h=>by
  rw[List.flatMap_cons,Zh7 (fun m hm=>h m (by simp[hm]))]
  have:parts' k n = [n]:=by
   cases n with
   | atom a=>rfl
   | no n=>rfl
   | row k' l2=>
    have e:k'≠k:=by rintro rfl;exact h _ (by simp) l2 rfl
    simp[parts',e]
  rw[this]
  rfl
theorem Zpt {n:Nd} {k:Nat} (h:∀l,n≠.row k l):tkN n (k+2)=tkN n (k+1):=by
 cases n with
 | atom a=>rw[tkN,tkN]
 | no n=>rw[tkN,tkN]
 | row k' l=>
  have e:k'≠k:=by rintro rfl;exact h l rfl
  rw[tkN,tkN]
  by_cases h1:k'+1<k+1
  ·rw[if_pos h1,if_pos (by omega)]
  ·rw[if_neg h1,if_neg (by omega)]
theorem Zpu {n:Nd} {k:Nat} (h:∀l,n≠.row k l):dep n (k+2)=dep n (k+1):=by
 cases n with
 | atom a=>rw[dep,dep]
 | no n=>rw[dep,dep]
 | row k' l=>
  have e:k'≠k:=by rintro rfl;exact h l rfl
  rw[dep,dep]
  by_cases h1:k'+1<k+1
  ·rw[if_pos h1,if_pos (by omega)]
  ·rw[if_neg h1,if_neg (by omega)]
theorem Zpv {n:Nd} (h:NF n):∀(k d:Nat),k≤2→d+dep n (k+1)≤40→∀rest,Stop k rest→Again n k d (tkN n (k+1)) rest:=by
 have low:∀{n:Nd} {d:Nat},(∀l k,n≠.row k l)→(∀wi,tkN n wi=tkN n 3)→(∀rest,Again n 2 d (tkN n 3) rest)→∀k,k≤2→∀rest,Stop k rest→Again n k d (tkN n (k+1)) rest:=fun {n d} hr ht h2 k hk rest hs=>by
  rw[ht]
  have h1:∀rest,Stop 1 rest→Again n 1 d (tkN n 3) rest:=fun rest hs=>(h2 rest).lift (by omega) hs (fun l=>hr l 1)
  rcases (show k=0∨k=1∨k=2 by omega) with rfl|rfl|rfl
  ·exact (h1 rest (fun j h1 h2=>hs j (by omega) h2)).lift (by omega) hs (fun l=>hr l 0)
  ·exact h1 rest hs
  ·exact h2 rest
 induction h with
 | @atom a h=>
  intro k d hk hd rest hs
  refine low (fun l k e=>by cases e) (fun wi=>by rw[tkN,tkN]) (fun rest=>?_) k hk rest hs
  refine⟨[.atom a],?_,rfl⟩
  rw[tkN]
  exact P.leaf (d:=d) (L:=[leafT a]++rest) (a:=a) ⟨h,rfl⟩
 | @no n h ih=>
  intro k d hk hd rest hs
  rw[dep]at hd
  refine low (fun l k e=>by cases e) (fun wi=>by rw[tkN,tkN]) (fun rest=>?_) k hk rest hs
  obtain⟨ns,h1,h2⟩:=ih 2 d (by omega) hd rest (fun j h1 h2=>by omega)
  rw[tkN]
  refine⟨[.no (nodeOf 2 ns)],?_,by rw[h2];rfl⟩
  exact P.no (L:=notW::tkN n 3++rest) rfl h1
 | @row k' l hk' h hf hl ih=>
  have core:∀(d:Nat),d+depL l k'≤40→∀rest,Stop k' rest→Again (.row k' l) k' d (tkL l k') rest:=fun d hd rest hs=>by
   refine⟨l,?_,?_⟩
   ·cases l with
    | nil=>simp at hl
    | cons n l=>
     rw[tkL,List.append_assoc]
     refine Zrm hk' l n rest (fun m hm r hr=>?_) hs
     have h1:=Zkn (k:=k') hm
     have h2:=Zpu (hf m hm)
     have:=ih m hm (k'+1) d (by omega) (by rw[show k'+1+1=k'+2 by omega,h2];omega) r hr
     rw[show k'+1+1=k'+2 by omega,Zpt (hf m hm)]at this
     exact this
   ·unfold nodeOf
    rw[if_pos hk',Zh7 hf]
    match l,hl with
    | a::b::r,_=>rfl
  have core0:∀(d:Nat),d+depL l k'≤40→∀rest,Stop 0 rest→Again (.row k' l) 0 d (tkL l k') rest:=fun d hd rest hs=>by
   rcases (show k'=0∨k'=1 by omega) with rfl|rfl
   ·exact core d hd rest hs
   ·exact (core d hd rest (fun j h1 h2=>hs j (by omega) h2)).lift (by omega) hs (fun l e=>by injection e with e _;omega)
  have core2:∀(d:Nat),d+(1+depL l k')≤40→∀rest,Again (.row k' l) 2 d (openW::(tkL l k'++[closeW])) rest:=fun d hd rest=>
   (core0 (d+1) (by omega) _ (Zlh rest 0)).brackets (by omega)
  intro k d hk hd rest hs
  rw[dep]at hd
  rw[tkN]
  rcases (show k=0∨k=1∨k=2 by omega) with rfl|rfl|rfl
  ·rw[if_neg (by omega)]at hd ⊢
   exact core0 d hd rest hs
  ·by_cases h1:k'+1<1+1
   ·rw[if_pos h1]at hd ⊢
    obtain rfl:k'=0:=by omega
    exact (core2 d hd rest).lift (by omega) hs (fun l e=>by injection e with e _;omega)
   ·rw[if_neg h1]at hd ⊢
    obtain rfl:k'=1:=by omega
    exact core d hd rest hs
  ·rw[if_pos (by omega)]at hd ⊢
   exact core2 d hd rest
theorem Zpw:Stop 0 []:=fun j _ h=>by
 show (⟨#[]⟩:ByteArray)≠wordOf j
 rcases (show j=0∨j=1 by omega) with rfl|rfl <;> decide
end Go.Proofs.YthdmpcnnbminlaaGreatDoor.Ru
namespace Go.Proofs.YthdmpcnnbminlaaGreatDoor.Ru
open Go.RowKit Go.Maps Go.Shelf
theorem Zso (n:Nd) (wi:Nat):(ownB n wi).size=(ownN n wi).length:=by show (ownN n wi).toArray.size=_;simp
theorem Zpx {k:Nat}:∀{l:List Nd} {n:Nd},n∈l→(ownN n (k+1)).length≤(ownL l k).length:=by
 intro l n h
 have hM:∀(l:List Nd),n∈l→(ownN n (k+1)).length≤(ownM l k).length:=by
  intro l
  induction l with
  | nil=>intro h;cases h
  | cons m l ih=>
   intro h
   rw[ownM]
   simp only[List.length_append]
   rcases List.mem_cons.1 h with rfl|h
   ·omega
   ·have:=ih h;omega
 cases l with
 | nil=>cases h
 | cons m l=>
  rw[ownL]
  simp only[List.length_append]
  rcases List.mem_cons.1 h with rfl|h
  ·omega
  ·have:=hM l h;omega
end Go.Proofs.YthdmpcnnbminlaaGreatDoor.Ru
namespace Go.Proofs.YthdmpcnnbminlaaGreatDoor.Ru
open Go.RowKit Go.Maps Go.Shelf
end Go.Proofs.YthdmpcnnbminlaaGreatDoor.Ru
namespace Go.Proofs.YthdmpcnnbminlaaGreatDoor.Ru
open Go.RowKit Go.Maps Go.Shelf
theorem Says.sz {s:ByteArray} {r:Option Nd} {a:Nat} (h:Says s (some r) a):(ruleT r).size≤4000:=by
 cases h with
 | empty h h0=>exact Nat.zero_le _
 | @good ns h h0 hp=>
  have hnf:=hp.nf rfl
  have h1:=(hp.len rfl (by omega)).1 (by omega)
  have h2:=Zec (k:=0) (by omega) hnf.1 hnf.2
  have h3:=Zdw (nodeOf 0 ns) (show 0≤0+1 by omega)
  have h4:szL (tx (toks s))≤s.size:=by
   rw[Zi8]
   have:=Znb s.data.toList []
   unfold tkS
   simpa using this
  have h5:szL []=0:=rfl
  have h6:(ruleT (some (nodeOf 0 ns))).size=(ownN (nodeOf 0 ns) 0).length:=Zso _ 0
  rw[h6]
  omega
end Go.Proofs.YthdmpcnnbminlaaGreatDoor.Ru
namespace Go.Proofs.YthdmpcnnbminlaaGreatDoor.Ru
open Go.Shelf Go.RowKit Go.Maps
theorem _root_.Go.Proofs.YthdmpcnnbminlaaGreatDoor.Blk.at3 {w:World} {b:Nat} {t:TypeId} {x y z:Value} (h:Blk w b t #[x,y,z]):w.cell? ⟨b,0,none⟩=some x∧w.cell? ⟨b,1,none⟩=some y∧w.cell? ⟨b,2,none⟩=some z∧w.frozen? ⟨b,0,none⟩=false∧w.frozen? ⟨b,1,none⟩=false∧w.frozen? ⟨b,2,none⟩=false:=
 ⟨h.cell 0,h.cell 1,h.cell 2,h.frozen 0,h.frozen 1,h.frozen 2⟩
theorem _root_.Go.Proofs.YthdmpcnnbminlaaGreatDoor.Blk.under {w w':World} {b:Nat} {t:TypeId} {cs:Array Value} (h:Blk w b t cs) (k:Below w.heap.size w w'):Blk w' b t cs:=(k.block b h.lt).trans h
theorem Zli (s:ByteArray):(parts s).length=Lib.countB s ⟨#[44]⟩+1:=Go.Proofs.YthdmpcnnbminlaaGreatDoor.parts_len s
theorem sindex_any (w:World) (B:Nat) (A:Option Addr) (l:List ByteArray) (n c:Nat) (s:ByteArray) (hn:l.length=n) (hl:RowIn w B 1 A n (l.map .string)) (hb:n≤1000000) :
  Calls Tryz.prog 107 #[.slice A n c,.string s] w fun e w'=>∃z:Int,e = .returned (.int .i64 z)∧(decide (0≤z)=memB s l)∧w=w':=by
 have HN:=zh hn
 have HL:=zh hl
 clear hn hl
 go_enter Tryz.func107,Tryz.ntmps107
 go_wp2_with fail
 go_loopw [8] (fun i wr=>∃k:Nat,k≤n∧i = .int .i64 k∧Hid (∀j t,j<k→l[j]? = some t→t≠s)∧wr=w) (fun i _=>n - (intOf i).toNat)
 case atStart=>exact⟨0,Nat.zero_le _,rfl,zh (fun j t hj=>by omega),rfl⟩
 case round=>
  obtain⟨k,hk,rfl,hok,rfl⟩:=hrel
  by_cases hlt:k<n
  ·obtain⟨t,ht⟩:∃t,l[k]? = some t:=⟨l[k]'(by rw[HN.o];exact hlt),List.getElem?_eq_getElem _⟩
   obtain⟨g,o,rfl,_,hc⟩:=HL.o.at (by omega)
   have e0:wr.cell? ⟨g,o+k,none⟩=some (.string t):=hc k _ (by simp[ht])
   have HTK:=zh ht
   have hk8:(k:Int)<(n:Int):=by omega
   have hk9:(0:Int)≤(k:Int):=by omega
   clear ht hc
   by_cases he:t=s
   ·have HE:Hid (memB s l=true):=zh ((Zbb _ _).2 (by rw[←he];exact List.mem_of_getElem? HTK.o))
    have q1:(s.toList == t.toList)=true:=(Zbw s t).2 he.symm
    clear he
    go_wp2_with fail
    go_ret
    exact⟨(k:Int),rfl,by rw[HE.o];exact decide_eq_true hk9,rfl⟩
   ·have HE:=zh he
    have q1:(s.toList == t.toList)=false:=Bool.eq_false_iff.2 (fun e=>he ((Zbw s t).1 e).symm)
    clear he
    go_wp2_with fail
    go_roundw
    case rel=>
     refine⟨k+1,by omega,by go_num,zh (fun j u hj hu=>?_),by trivial⟩
     by_cases e:j=k
     ·subst e;rw[HTK.o]at hu;cases hu;exact HE.o
     ·exact hok.o j u (by omega) hu
    case measure=>simp[intOf];omega
  ·have HF:Hid (memB s l=false):=zh (by
    cases hm:memB s l
    ·rfl
    ·obtain⟨j,hj⟩:=List.mem_iff_getElem?.1 ((Zbb _ _).1 hm)
     have:=(List.getElem?_eq_some_iff.1 hj).1
     rw[HN.o]at this
     exact absurd rfl (hok.o j s (by omega) hj))
   go_wp2_with fail
   go_ret
   exact⟨-1,rfl,by rw[HF.o];rfl,rfl⟩
theorem contains_any (w:World) (B:Nat) (A:Option Addr) (l:List ByteArray) (n c:Nat) (s:ByteArray) (hn:l.length=n) (hl:RowIn w B 1 A n (l.map .string)) (hb:n≤1000000) :
  Calls Tryz.prog 60 #[.slice A n c,.string s] w fun e w'=>e = .returned (.bool (memB s l))∧w=w':=by
 have HI:=zh (sindex_any w B A l n c s hn hl hb)
 clear hn hl
 go_enter Tryz.func60,Tryz.ntmps60
 go_wp2_with fail
 refine HI.o.mono ?_
 rintro e w2 ⟨z,rfl,hz,rfl⟩
 have HZ:=zh hz
 clear hz HI
 go_wp2_with fail
 go_ret
 exact⟨Zab HZ.o,rfl⟩
end Go.Proofs.YthdmpcnnbminlaaGreatDoor.Ru
