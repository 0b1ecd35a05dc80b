/- A part of the joined base. -/
import Derived.Test.YtnpfaajhgghpgaaGreatDoorU07
set_option linter.unusedVariables false
set_option maxHeartbeats 8000000
set_option maxRecDepth 100000
namespace Go.Proofs.YtnpfaajhgghpgaaGreatDoor
open Go.Shelf Go.RowKit Go.Maps
theorem Zo5 (a b:ByteArray):cmpB a b = -1\/cmpB a b=0\/cmpB a b=1:=by
 unfold cmpB;generalize a.data.toList=x;generalize b.data.toList=y
 induction x generalizing y with
 | nil=>cases y <;> simp[Lib.compareBytes]
 | cons c x ih=>
  cases y with
  | nil=>simp[Lib.compareBytes]
  | cons d y=>
   unfold Lib.compareBytes;split
   ·exact Or.inl rfl
   ·split
    ·exact Or.inr (Or.inr rfl)
    ·exact ih y
theorem Zj6 (a b:Int):cmpI a b = -1\/cmpI a b=0\/cmpI a b=1:=by
 unfold cmpI;split
 ·exact Or.inl rfl
 ·split
  ·exact Or.inr (Or.inr rfl)
  ·exact Or.inr (Or.inl rfl)
theorem Zo6 (x y:Ev):cmpE x y = -1\/cmpE x y=0\/cmpE x y=1:=by
 unfold cmpE;simp only[orL];have h1:=Zj6 x.tick y.tick;have h2:=Zo5 x.src y.src;have h3:=Zj6 x.num y.num;split
 ·split
  ·split
   ·exact Or.inr (Or.inl rfl)
   ·exact h3
  ·exact h2
 ·exact h1
theorem sindex_any (w:World)(B:Nat)(A:Option Addr)(l:List ByteArray)(n c:Nat)(s:ByteArray)(hn:l.length=n)(hl:RowIn w B 1 A n (l.map .string))(hb:n<=1000000) :
  Calls Tryz.prog 70 #[.slice A n c,.string s] w fun e w'=>∃z:Int,e = .returned (.int .i64 z)/\(decide (0<=z)=memB s l)/\w=w':=by
 have HN:=zh hn;have HL:=zh hl;clear hn hl;go_enter Tryz.func70,Tryz.ntmps70;go_wp2_with fail;go_loopw [8] (fun i wr=>∃k:Nat,k<=n/\i = .int .i64 k/\Hid (∀j t,j<k->l[j]? = some t->t≠s)/\wr=w) (fun i _=>n - (intOf i).toNat)
 case atStart=>exact⟨0,Nat.zero_le _,rfl,zh (fun j t hj=>by omega),rfl⟩
 case round=>
  obtain⟨k,hk,rfl,hok,rfl⟩:=hrel;by_cases hlt:k<n
  ·obtain⟨t,ht⟩:∃t,l[k]? = some t:=⟨l[k]'(by rw[HN.o];exact hlt),List.getElem?_eq_getElem _⟩
   obtain⟨g,o,rfl,_,hc⟩:=HL.o.at (by omega);have e0:wr.cell? ⟨g,o+k,none⟩=some (.string t):=hc k _ (by simp[ht]);have HTK:=zh ht;have hk8:(k:Int)<(n:Int):=by omega
   have hk9:(0:Int)<=(k:Int):=by omega
   clear ht hc;by_cases he:t=s
   ·have HE:Hid (memB s l=true):=zh ((Zbb _ _).2 (by rw[<-he];exact List.mem_of_getElem? HTK.o));have q1:(s.toList == t.toList)=true:=(Zbw s t).2 he.symm;clear he;go_wp2_with fail;go_ret;exact⟨(k:Int),rfl,by rw[HE.o];exact decide_eq_true hk9,rfl⟩
   ·have HE:=zh he;have q1:(s.toList == t.toList)=false:=Bool.eq_false_iff.2 (fun e=>he ((Zbw s t).1 e).symm);clear he;go_wp2_with fail;go_roundw
    case rel=>
     refine⟨k+1,by omega,by go_num,zh (fun j u hj hu=>?_),by trivial⟩;by_cases e:j=k
     ·subst e;rw[HTK.o]at hu;cases hu;exact HE.o
     ·exact hok.o j u (by omega) hu
    case measure=>simp[intOf];omega
  ·have HF:Hid (memB s l=false):=zh (by
    cases hm:memB s l
    ·rfl
    ·obtain⟨j,hj⟩:=List.mem_iff_getElem?.1 ((Zbb _ _).1 hm);have:=(List.getElem?_eq_some_iff.1 hj).1;rw[HN.o]at this;exact absurd rfl (hok.o j s (by omega) hj))
   go_wp2_with fail;go_ret;exact⟨-1,rfl,by rw[HF.o];rfl,rfl⟩
theorem contains_any (w:World)(B:Nat)(A:Option Addr)(l:List ByteArray)(n c:Nat)(s:ByteArray)(hn:l.length=n)(hl:RowIn w B 1 A n (l.map .string))(hb:n<=1000000) :
  Calls Tryz.prog 29 #[.slice A n c,.string s] w fun e w'=>e = .returned (.bool (memB s l))/\w=w':=by
 have HI:=zh (sindex_any w B A l n c s hn hl hb);clear hn hl;go_enter Tryz.func29,Tryz.ntmps29;go_wp2_with fail;refine HI.o.mono ?_;rintro e w2 ⟨z,rfl,hz,rfl⟩;have HZ:=zh hz;clear hz HI;go_wp2_with fail;go_ret;exact⟨Zab HZ.o,rfl⟩
def halfP (h:Int):Int:=min (max h 1) 1099511627776
def ev0:Ev:=⟨⟨#[]⟩,0,0,0,⟨#[]⟩,⟨#[]⟩,0,⟨#[]⟩⟩
theorem new_any (h:Int)(w:World):Calls Tryz.prog 76 #[.int .i64 h] w fun e w'=>∃cb U,e = .returned (.pointer (some ⟨cb,0,none⟩))/\CrAt w' cb (halfP h) U []/\(∀q,U q->w.heap.size<=q)/\Below w.heap.size w w':=by
 have hmm:=@run_makeMap Tryz.prog;obtain⟨hf,hhf⟩:=zG (min (max h 1) 1099511627776);have HHF:Hid (halfP h=hf):=zh hhf;obtain⟨w1,hw1⟩:=zG (w.alloc (.map #[] 0));have z1:Hid (w1.heap.size=w.heap.size+1):=zh (by rw[<-hw1];simp);have HB1:=zA hw1;have HC1:=zA hw1;obtain⟨w2,hw2⟩:=zG (w1.alloc (.map #[] 0));have z2:Hid (w2.heap.size=w1.heap.size+1):=zh (by rw[<-hw2];simp);have HB2:Hid (Below w.heap.size w w2):=zh (by rw[<-hw2];exact HB1.o.alloc HB1.o.size _);have HC2:=zA hw2;obtain⟨w3,hw3⟩:=zG (w2.alloc (.map #[] 0));have z3:Hid (w3.heap.size=w2.heap.size+1):=zh (by rw[<-hw3];simp);have HB3:Hid (Below w.heap.size w w3):=zh (by rw[<-hw3];exact HB2.o.alloc HB2.o.size _);have HC3:=zA hw3;obtain⟨w4,hw4⟩:=zG (w3.alloc (.map #[] 0));have z4:Hid (w4.heap.size=w3.heap.size+1):=zh (by rw[<-hw4];simp);have HB4:Hid (Below w.heap.size w w4):=zh (by rw[<-hw4];exact HB3.o.alloc HB3.o.size _);have HC4:=zA hw4;obtain⟨w5,hw5⟩:=zG (w4.alloc (.map #[] 0));have z5:Hid (w5.heap.size=w4.heap.size+1):=zh (by rw[<-hw5];simp);have HB5:Hid (Below w.heap.size w w5):=zh (by rw[<-hw5];exact HB4.o.alloc HB4.o.size _);have HC5:=zA hw5;obtain⟨w6,hw6⟩:=zG (w5.alloc (.map #[] 0));have z6:Hid (w6.heap.size=w5.heap.size+1):=zh (by rw[<-hw6];simp);have HB6:Hid (Below w.heap.size w w6):=zh (by rw[<-hw6];exact HB5.o.alloc HB5.o.size _);have HC6:=zA hw6;obtain⟨w7,hw7⟩:=zG (w6.alloc (.map #[] 0));have z7:Hid (w7.heap.size=w6.heap.size+1):=zh (by rw[<-hw7];simp);have HB7:Hid (Below w.heap.size w w7):=zh (by rw[<-hw7];exact HB6.o.alloc HB6.o.size _);have HC7:=zA hw7;obtain⟨w8,hw8⟩:=zG (w7.alloc (.map #[] 0));have z8:Hid (w8.heap.size=w7.heap.size+1):=zh (by rw[<-hw8];simp);have HB8:Hid (Below w.heap.size w w8):=zh (by rw[<-hw8];exact HB7.o.alloc HB7.o.size _);have HC8:=zA hw8;have HP:Hid (GrpIn rdC 9 183 w1 w.heap.size 0 0 (fun _=>none) (fun _=>([]:List Rd))):=zh (by rw[<-hw1];exact GrpIn.made _ _);have HD:Hid (Is2 okBool w2 w1.heap.size 0 (fun _ _=>none)):=zh (by rw[<-hw2];exact Is2.made _ _);have HS:Hid (Is2 okInt w3 w2.heap.size 0 (fun _ _=>none)):=zh (by rw[<-hw3];exact Is2.made _ _);have HH:Hid (Is2 okBool w4 w3.heap.size 0 (fun _ _=>none)):=zh (by rw[<-hw4];exact Is2.made _ _);have HF:Hid (Is2 okBool w5 w4.heap.size 0 (fun _ _=>none)):=zh (by rw[<-hw5];exact Is2.made _ _);have HM:Hid (Is2 okBool w6 w5.heap.size 0 (fun _ _=>none)):=zh (by rw[<-hw6];exact Is2.made _ _);have HL:Hid (Is2 okBool w7 w6.heap.size 0 (fun _ _=>none)):=zh (by rw[<-hw7];exact Is2.made _ _);have HN:Hid (MapIs Tryz.prog 9 okInt w8 w7.heap.size 0 (fun _=>none)):=zh (by rw[<-hw8];exact MapIs.made _ _ _ _);go_enter Tryz.func76,Tryz.ntmps76;go_wp2_with fail;go_ret;obtain⟨w9,hw9⟩:=zG (w8.alloc (.cells (crCells hf 0 ev0 ⟨w.heap.size,w1.heap.size,w2.heap.size,w3.heap.size,w4.heap.size,w5.heap.size,w6.heap.size,w7.heap.size⟩) 140));have hwe:w8.alloc (.cells (crCells hf 0 ev0 ⟨w.heap.size,w1.heap.size,w2.heap.size,w3.heap.size,w4.heap.size,w5.heap.size,w6.heap.size,w7.heap.size⟩) 140)=w9:=hw9;unfold crCells ev0 at hw9;dsimp only at hw9;rw[show ((0:Nat):Int)=0 from rfl]at hw9;rw[hw9];have b9:Blk w9 w8.heap.size 140 (crCells hf 0 ev0 ⟨w.heap.size,w1.heap.size,w2.heap.size,w3.heap.size,w4.heap.size,w5.heap.size,w6.heap.size,w7.heap.size⟩):=by rw[<-hwe];exact Blk.new _ _ _
 have c9:Below w8.heap.size w8 w9:=by rw[<-hwe];exact (Below.refl _ _).alloc (zr _) _
 have c8:Below w7.heap.size w7 w9:=HC8.o.trans (c9.mono HC8.o.size);have c7:Below w6.heap.size w6 w9:=HC7.o.trans (c8.mono HC7.o.size);have c6:Below w5.heap.size w5 w9:=HC6.o.trans (c7.mono HC6.o.size);have c5:Below w4.heap.size w4 w9:=HC5.o.trans (c6.mono HC5.o.size);have c4:Below w3.heap.size w3 w9:=HC4.o.trans (c5.mono HC4.o.size);have c3:Below w2.heap.size w2 w9:=HC3.o.trans (c4.mono HC3.o.size);have c2:Below w1.heap.size w1 w9:=HC2.o.trans (c3.mono HC2.o.size);have zs:w1.heap.size=w.heap.size+1/\w2.heap.size=w.heap.size+2/\w3.heap.size=w.heap.size+3/\w4.heap.size=w.heap.size+4/\w5.heap.size=w.heap.size+5/\w6.heap.size=w.heap.size+6/\w7.heap.size=w.heap.size+7/\w8.heap.size=w.heap.size+8:=by
  have:=z1.o;have:=z2.o;have:=z3.o;have:=z4.o;have:=z5.o;have:=z6.o;have:=z7.o;have:=z8.o;omega
 have hlt:=b9.lt;rw[HHF.o];refine⟨w8.heap.size,fun q=>w.heap.size<=q/\q<=w8.heap.size,rfl,⟨⟨w.heap.size,w1.heap.size,w2.heap.size,w3.heap.size,w4.heap.size,w5.heap.size,w6.heap.size,w7.heap.size⟩,ev0,fun _=>none,fun _=>[],?_⟩,fun q hq=>hq.1,HB8.o.trans (c9.mono HB8.o.size)⟩;refine⟨b9,fun l hl=>(by cases hl),HP.o.below c2,fun p=>⟨rfl,fun j r x hr=>(by cases hr)⟩,?_,?_,⟨by omega,zr _⟩,?_,fun p v g hp=>(by cases hp),fun p r g hr=>(by cases hr),fun q hq=>by omega,fun r hr=>(by cases hr),fun r hr=>(by cases hr),fun r hr=>(by cases hr),fun r hr=>(by cases hr)⟩
 ·exact⟨HD.o.kept (below_kept (S:=fun _=>False) c3 (zr _)) (fun h=>h),HS.o.kept (below_kept (S:=fun _=>False) c4 (zr _)) (fun h=>h),HH.o.kept (below_kept (S:=fun _=>False) c5 (zr _)) (fun h=>h),HF.o.kept (below_kept (S:=fun _=>False) c6 (zr _)) (fun h=>h),HM.o.kept (below_kept (S:=fun _=>False) c7 (zr _)) (fun h=>h),HL.o.kept (below_kept (S:=fun _=>False) c8 (zr _)) (fun h=>h),(HN.o.kept (below_kept (S:=fun _=>False) c9 (zr _)) (fun h=>h)).congr (fun kl=>by cases kl <;> rfl)⟩
 ·unfold Bs.l;simp only[List.nodup_cons,List.mem_cons,List.not_mem_nil,or_false,not_or,List.nodup_nil,and_true,not_false_eq_true];omega
 ·intro q hq;unfold Bs.l at hq;simp only[List.mem_cons,List.not_mem_nil,or_false]at hq;omega
end Go.Proofs.YtnpfaajhgghpgaaGreatDoor
namespace Go.Proofs.YtnpfaajhgghpgaaGreatDoor
open Go.Shelf Go.RowKit Go.Maps
theorem Zo7 (h:Int)(w:World):Calls Tryz.prog 77 #[.int .i64 h] w fun e w'=>∃db B,e = .returned (.pointer (some ⟨db,0,none⟩))/\DcAt w' db B 0/\(∀q,B q->w.heap.size<=q)/\Below w.heap.size w w':=by
 have hmm:=@run_makeMap Tryz.prog;obtain⟨hf,hhf⟩:=zG (min (max h 1) 1099511627776);obtain⟨w1,hw1⟩:=zG (w.alloc (.map #[] 0));have z1:Hid (w1.heap.size=w.heap.size+1):=zh (by rw[<-hw1];simp);have HB1:=zA hw1;have HM:Hid (MapOf 9 (fun _=>False) w1 w.heap.size 0):=zh (by rw[<-hw1];exact MapOf.made _ _ _);go_enter Tryz.func77,Tryz.ntmps77;go_wp2_with fail;go_ret;obtain⟨w2,hw2⟩:=zG (w1.alloc (.cells #[.int .i64 hf,.int .i64 0,.map (some w.heap.size)] 191));rw[hw2];have c2:Below w1.heap.size w1 w2:=by rw[<-hw2];exact (Below.refl _ _).alloc (zr _) _
 have b2:Blk w2 w1.heap.size 191 #[.int .i64 hf,.int .i64 0,.map (some w.heap.size)]:=by rw[<-hw2];exact Blk.new _ _ _
 have zz:=z1.o;refine⟨w1.heap.size,fun q=>q=w1.heap.size\/q=w.heap.size\/False,rfl,⟨w.heap.size,hf,0,fun _=>False,?_⟩,fun q hq=>by rcases hq with rfl|rfl|h <;> first|omega|exact h.elim,HB1.o.trans (c2.mono HB1.o.size)⟩;exact⟨b2,⟨Int.le_refl _,Int.le_refl _⟩,HM.o.kept (below_kept (S:=fun _=>False) c2 (zr _)) (fun h=>h),fun q hq=>hq.elim,fun h=>h,fun h=>h,by omega,fun q=>Iff.rfl⟩
def DcAdd (w:World)(db:Nat)(B:Nat->Prop)(n:Nat)(e:Ending)(w':World):Prop:=e = .returned (.bool true)/\∃B',DcAt w' db B' (n+2)/\Grows B B' w.heap.size/\Kept B w w'
theorem Zo8 (w:World)(db:Nat)(B:Nat->Prop)(n:Nat)(h:DcAt w db B n)(x:ByteArray)(t v:Int)(hx:1<=x.size/\x.size<=24)(ht:0<=t/\t<=1099511627776)(hv:0<=v/\v<=1048576)(hn:n<=1000000) :
  Calls Tryz.prog 91 #[.pointer (some ⟨db,0,none⟩),.string x,.int .i64 t,.int .i64 v] w (DcAdd w db B n):=by
 obtain⟨mb,half,added,S,h⟩:=h;have hf:=h.few;obtain⟨w1,hw1⟩:=zG (w.setCell ⟨db,1,none⟩ (.int .i64 (added+1)));have HK:Hid (Kept (fun q=>q=db) w w1):=zh (by rw[<-hw1];exact (Kept.refl (fun q=>q=db) w).setCell (p:=⟨db,1,none⟩) (Or.inl rfl) _);have HS:Hid (w1.heap.size=w.heap.size):=zh (by rw[<-hw1];simp[World.setCell])
 have HD:Hid (DcIn w1 db mb half (added+1) S B (n+1)):=zh (by
  refine⟨by rw[<-hw1];exact h.blk.set_ 1 _,by omega,(h.outer.kept HK.o (fun e=>h.ne e)).mono (Nat.le_succ _),fun q hq=>((h.inner q hq).kept HK.o (fun e=>h.nd (e ▸ hq))).mono (Nat.le_succ _),h.nm,h.nd,h.ne,h.all⟩)
 have HP:=zh (Zo1 w1 db mb half (added+1) S B (n+1) HD.o x t v (by unfold maxLen;omega) ht (by unfold maxLen;omega));have HBD:Hid (B db):=zh ((h.all db).2 (Or.inl rfl));have c1:w.cell? ⟨db,1,none⟩=some (.int .i64 added):=h.blk.cell 1;have f1:w.frozen? ⟨db,1,none⟩=false:=h.blk.frozen 1;have d1:decide ((x.size:Int)<1)=false:=decide_eq_false (by omega);have d2:decide (24<(x.size:Int))=false:=decide_eq_false (by omega);have d3:decide (t<0)=false:=decide_eq_false (by omega);have d4:decide ((1099511627776:Int)<t)=false:=decide_eq_false (by omega);have d5:decide (v<0)=false:=decide_eq_false (by omega);have d6:decide ((1048576:Int)<v)=false:=decide_eq_false (by omega);have d7:decide ((1048576:Int)<=added)=false:=decide_eq_false (by omega);clear h;go_enter Tryz.func91,Tryz.ntmps91;go_wp2_with fail;refine HP.o.mono ?_;rintro e w2 ⟨rfl,S',B',hd,hg,hk⟩;have HD2:=zh hd;have HG2:=zh hg;have HK2:=zh hk;have HW1:=zh hw1;clear hd hg hk hw1 c1 f1;go_wp2_with fail;go_ret;refine⟨rfl,B',⟨mb,half,added+1,S',HD2.o⟩,by rw[<-HS.o];exact HG2.o,(HK.o.mono (fun q _ e=>by rw[e];exact HBD.o)).trans HK2.o⟩
end Go.Proofs.YtnpfaajhgghpgaaGreatDoor
namespace Go.Proofs.YtnpfaajhgghpgaaGreatDoor
open Go.Shelf Go.RowKit Go.Maps
theorem Zo9 (h:Int)(w:World):Calls Tryz.prog 79 #[.int .i64 h] w fun e w'=>∃sb B,e = .returned (.pointer (some ⟨sb,0,none⟩))/\SsAt w' sb B 0/\(∀q,B q->w.heap.size<=q)/\Below w.heap.size w w':=by
 have hmm:=@run_makeMap Tryz.prog;obtain⟨hf,hhf⟩:=zG (min (max h 0) 1099511627776);obtain⟨w1,hw1⟩:=zG (w.alloc (.map #[] 0));have z1:Hid (w1.heap.size=w.heap.size+1):=zh (by rw[<-hw1];simp);have HB1:=zA hw1;have HM:Hid (MapOf 9 (fun _=>False) w1 w.heap.size 0):=zh (by rw[<-hw1];exact MapOf.made _ _ _);go_enter Tryz.func79,Tryz.ntmps79;go_wp2_with fail;go_ret;obtain⟨w2,hw2⟩:=zG (w1.alloc (.cells #[.int .i64 hf,.map (some w.heap.size)] 198));rw[hw2];have c2:Below w1.heap.size w1 w2:=by rw[<-hw2];exact (Below.refl _ _).alloc (zr _) _
 have b2:Blk w2 w1.heap.size 198 #[.int .i64 hf,.map (some w.heap.size)]:=by rw[<-hw2];exact Blk.new _ _ _
 have zz:=z1.o;refine⟨w1.heap.size,fun q=>q=w1.heap.size\/q=w.heap.size\/False\/False,rfl,⟨w.heap.size,hf,fun _=>False,fun _=>False,?_⟩,fun q hq=>by rcases hq with rfl|rfl|h|h <;> first|omega|exact h.elim,HB1.o.trans (c2.mono HB1.o.size)⟩;exact⟨b2,HM.o.kept (below_kept (S:=fun _=>False) c2 (zr _)) (fun h=>h),fun q hq=>hq.elim,fun q hq=>hq.elim,⟨fun h=>h,fun h=>h⟩,⟨fun h=>h,fun h=>h⟩,by omega,fun q h=>h.elim,fun q=>Iff.rfl⟩
theorem Zj7 (x:ByteArray)(w:World)(hx:1<=x.size/\x.size<=24):Calls Tryz.prog 118 #[.string x] w fun e w'=>e = .returned (.bool true)/\w=w':=by
 have d1:decide ((1:Int)<=(x.size:Int))=true:=decide_eq_true (by omega);have d2:decide ((x.size:Int)<=24)=true:=decide_eq_true (by omega);go_enter Tryz.func118,Tryz.ntmps118;go_wp2_with fail;go_ret;exact⟨rfl,rfl⟩
section
variable {w w2 : World} {sb mb n g : Nat} {gap : Int} {S T B : Nat -> Prop}
theorem SsIn.add1 (h:SsIn w sb mb gap S T B n)(hk:Kept (fun i=>i=mb) w w2)(hg:w.heap.size<=g)(ho:MapOf 9 (fun q=>S q\/q=g) w2 mb (n+1))(hn:MapOf 3 T w2 g 0):SsIn w2 sb mb gap (fun q=>S q\/q=g) T (fun q=>B q\/q=g) (n+1):=by
 have hb:=h.blk.lt;have hm:=h.outer.lt;refine⟨h.blk.kept hk (fun e=>h.ne e.symm),ho,fun q hq=>?_,fun q hq=>((h.inner q hq).kept hk (fun e=>h.nm.2 (e ▸ hq))).mono (Nat.le_succ _),⟨?_,h.nm.2⟩,⟨?_,h.nd.2⟩,h.ne,?_,?_⟩
 ·rcases hq with hq|rfl
  ·exact ((h.mid q hq).kept hk (fun e=>h.nm.1 (e ▸ hq))).mono (Nat.le_succ _)
  ·exact hn.mono (Nat.zero_le _)
 ·rintro (h1|h1)
  ·exact h.nm.1 h1
  ·omega
 ·rintro (h1|h1)
  ·exact h.nd.1 h1
  ·omega
 ·rintro q (hq|rfl) ht
  ·exact h.st q hq ht
  ·have:=(h.inner _ ht).lt;omega
 ·intro q
  constructor
  ·rintro (h1|h1)
   ·rcases (h.all q).1 h1 with h1|h1|h1|h1
    ·exact Or.inl h1
    ·exact Or.inr (Or.inl h1)
    ·exact Or.inr (Or.inr (Or.inl (Or.inl h1)))
    ·exact Or.inr (Or.inr (Or.inr h1))
   ·exact Or.inr (Or.inr (Or.inl (Or.inr h1)))
  ·rintro (h1|h1|(h1|h1)|h1)
   ·exact Or.inl ((h.all q).2 (Or.inl h1))
   ·exact Or.inl ((h.all q).2 (Or.inr (Or.inl h1)))
   ·exact Or.inl ((h.all q).2 (Or.inr (Or.inr (Or.inl h1))))
   ·exact Or.inr h1
   ·exact Or.inl ((h.all q).2 (Or.inr (Or.inr (Or.inr h1))))
theorem SsIn.add2 {r:Nat}(h:SsIn w sb mb gap S T B n)(hr:S r)(hk:Kept (fun i=>i=r) w w2)(hg:w.heap.size<=g)(ho:MapOf 3 (fun q=>T q\/q=g) w2 r (n+1))(hn:SomeMap 9 okBool w2 g 0):SsIn w2 sb mb gap S (fun q=>T q\/q=g) (fun q=>B q\/q=g) (n+1):=by
 have hb:=h.blk.lt;have hm:=h.outer.lt;refine⟨h.blk.kept hk (fun e=>h.nd.1 (e ▸ hr)),(h.outer.kept hk (fun e=>h.nm.1 (e ▸ hr))).mono (Nat.le_succ _),fun q hq=>?_,fun q hq=>?_,⟨h.nm.1,?_⟩,⟨h.nd.1,?_⟩,h.ne,?_,?_⟩
 ·by_cases e:q=r
  ·subst e;exact ho
  ·exact (((h.mid q hq).kept hk e).mono (Nat.le_succ _)).more (fun _ h=>Or.inl h)
 ·rcases hq with hq|rfl
  ·exact ((h.inner q hq).kept hk (fun e=>h.st r hr (e ▸ hq))).mono (Nat.le_succ _)
  ·exact hn.mono (Nat.zero_le _)
 ·rintro (h1|h1)
  ·exact h.nm.2 h1
  ·omega
 ·rintro (h1|h1)
  ·exact h.nd.2 h1
  ·omega
 ·rintro q hq (ht|rfl)
  ·exact h.st q hq ht
  ·have:=(h.mid _ hq).lt;omega
 ·intro q
  constructor
  ·rintro (h1|h1)
   ·rcases (h.all q).1 h1 with h1|h1|h1|h1
    ·exact Or.inl h1
    ·exact Or.inr (Or.inl h1)
    ·exact Or.inr (Or.inr (Or.inl h1))
    ·exact Or.inr (Or.inr (Or.inr (Or.inl h1)))
   ·exact Or.inr (Or.inr (Or.inr (Or.inr h1)))
  ·rintro (h1|h1|h1|(h1|h1))
   ·exact Or.inl ((h.all q).2 (Or.inl h1))
   ·exact Or.inl ((h.all q).2 (Or.inr (Or.inl h1)))
   ·exact Or.inl ((h.all q).2 (Or.inr (Or.inr (Or.inl h1))))
   ·exact Or.inl ((h.all q).2 (Or.inr (Or.inr (Or.inr h1))))
   ·exact Or.inr h1
theorem SsIn.add3 {r:Nat}(h:SsIn w sb mb gap S T B n)(hr:T r)(hk:Kept (fun i=>i=r) w w2)(ho:SomeMap 9 okBool w2 r (n+1)):SsIn w2 sb mb gap S T B (n+1):=by
 refine⟨h.blk.kept hk (fun e=>h.nd.2 (e ▸ hr)),(h.outer.kept hk (fun e=>h.nm.2 (e ▸ hr))).mono (Nat.le_succ _),fun q hq=>((h.mid q hq).kept hk (fun e=>h.st q hq (e ▸ hr))).mono (Nat.le_succ _),fun q hq=>?_,h.nm,h.nd,h.ne,h.st,h.all⟩;by_cases e:q=r
 ·subst e;exact ho
 ·exact ((h.inner q hq).kept hk e).mono (Nat.le_succ _)
end
theorem Zmt {S:Nat->Prop}{M:Lit->Option Value}{kl:Lit}{g:Nat}(h:∀x v,M x=some v->∃q,v = .map (some q)/\S q):∀x v,upd M kl (.map (some g)) x=some v->∃q,v = .map (some q)/\(S q\/q=g):=fun x v hv=>by
 unfold upd at hv;split at hv
 ·injection hv with hv;exact⟨g,hv.symm,Or.inr rfl⟩
 ·obtain⟨q,e,hq⟩:=h x v hv;exact⟨q,e,Or.inl hq⟩
def SsGot (w0 wx:World)(sb mb:Nat)(gap:Int)(T B:Nat->Prop)(n:Nat)(x:ByteArray)(q:Nat):Prop:=∃S' B',SsIn wx sb mb gap S' T B' n/\S' q/\Grows B B' w0.heap.size/\Kept B w0 wx/\∃M,MapIs Tryz.prog 9 okMp wx mb n M/\M (.string x.data.toList)=some (.map (some q))
def SsHas (w0 wx:World)(sb mb:Nat)(gap:Int)(B:Nat->Prop)(n:Nat)(q:Nat)(t:Int)(b:Nat):Prop:=∃S' T' B',SsIn wx sb mb gap S' T' B' n/\S' q/\T' b/\Grows B B' w0.heap.size/\Kept B w0 wx/\∃M,MapIs Tryz.prog 3 okMp wx q n M/\M (.int .i64 t)=some (.map (some b))
theorem zeroMm (w:World):(zeroValue 214).run Tryz.prog w = .ok (.map none) w:=Tryz.zeroValue214 w
theorem zeroMs (w:World):(zeroValue 67).run Tryz.prog w = .ok (.map none) w:=Tryz.zeroValue67 w
theorem Zgp {S:Nat->Prop}{M:Lit->Option Value}(h:∀x v,M x=some v->∃q,v = .map (some q)/\S q)(kl:Lit):(∃q,M kl=some (.map (some q))/\S q/\(M kl).getD (.map none) = .map (some q))\/(M kl=none/\(M kl).getD (.map none) = .map none):=by
 cases hm:M kl with
 | none=>exact Or.inr ⟨rfl,rfl⟩
 | some v=>
  obtain⟨q,rfl,hq⟩:=h kl v hm;exact Or.inl ⟨q,rfl,hq,rfl⟩
def SsAdd (w:World)(sb:Nat)(B:Nat->Prop)(n:Nat)(e:Ending)(w':World):Prop:=e = .returned (.bool true)/\∃B',SsAt w' sb B' (n+3)/\Grows B B' w.heap.size/\Kept B w w'
theorem Zpa (w:World)(sb:Nat)(B:Nat->Prop)(n:Nat)(h:SsAt w sb B n)(x y:ByteArray)(t:Int)(hx:1<=x.size/\x.size<=24)(hy:1<=y.size/\y.size<=24)(ht:0<=t/\t<=1099511627776)(hn:n<=1000000) :
  Calls Tryz.prog 93 #[.pointer (some ⟨sb,0,none⟩),.string x,.int .i64 t,.string y] w (SsAdd w sb B n):=by
 obtain⟨mb,gap,S,T,h⟩:=h;have HI:=zh h;have hmm:=@run_makeMap Tryz.prog;have hme1:=Ziv Tryz.underlying214;have hme2:=Ziv Tryz.underlying67;unfold isMp at hme1 hme2;have HF1:=fun W=>Zj7 x W hx;have HF2:=fun W=>Zj7 y W hy;have H1:=zh (HF1 w);have H2:=zh (HF2 w);have hxm:x.size<=maxLen:=by unfold maxLen;omega
 have hym:y.size<=maxLen:=by unfold maxLen;omega
 have HKEY:Hid (keyOf Tryz.prog 3 (.int .i64 t)=some (.int .i64 t)):=zh (keyOf_int_mk Tryz.underlying3 (by simp[Lit.wf,IntKind.min,IntKind.max,IntKind.signed,IntKind.bits];omega));have d3:decide (t<0)=false:=decide_eq_false (by omega);have d4:decide ((1099511627776:Int)<t)=false:=decide_eq_false (by omega);obtain⟨M,hM,hMS⟩:=h.outer;have HM:=zh hM;have HMS:=zh hMS;have c1:w.cell? ⟨sb,1,none⟩=some (.map (some mb)):=h.blk.cell 1;obtain⟨r,hr⟩:∃r,(M (.string x.data.toList)).getD (.map none) = .map r:=by
  rcases Zgp hMS (.string x.data.toList) with ⟨q,_,_,h3⟩|⟨_,h3⟩
  ·exact⟨_,h3⟩
  ·exact⟨_,h3⟩
 have HR:=zh hr;clear h hM hMS hr HF1 HF2;go_enter Tryz.func93,Tryz.ntmps93;go_wp2_with fail;refine H1.o.mono ?_;rintro e w1 ⟨rfl,rfl⟩;go_wp2_with fail;refine H2.o.mono ?_;rintro e w1 ⟨rfl,rfl⟩
 go_upto_if 35 with (first
  | (at_lookup;refine Zao _ rfl _ _ 196 rfl 9 214 (string_keyed Tryz.underlying9) Tryz.underlying196 okMp _ (zeroMm _) rfl mb n M rfl HM.o _ _ rfl (WideMaps.keyOf_string_mk Tryz.underlying9 hxm) _ HR.o ?_)
  | fail)
 go_cut [] (fun wx=>∃q,Hid (SsGot w wx sb mb gap T B (n+1) x q))
 case first=>
  have HI0:=HI.o;have hlt:mb<w.heap.size:=HM.o.lt;cases r with
  | some q=>
   go_wp2_with fail;go_meet;have HQ:M (.string x.data.toList)=some (.map (some q))/\S q:=by
    rcases Zgp HMS.o (.string x.data.toList) with ⟨q',h1,h2,h3⟩|⟨_,h3⟩
    ·rw[HR.o]at h3;cases h3;exact⟨h1,h2⟩
    ·rw[HR.o]at h3;cases h3
   exact⟨q,zh ⟨S,B,⟨HI0.blk,HI0.outer.mono (Nat.le_succ _),fun q hq=>(HI0.mid q hq).mono (Nat.le_succ _),fun q hq=>(HI0.inner q hq).mono (Nat.le_succ _),HI0.nm,HI0.nd,HI0.ne,HI0.st,HI0.all⟩,HQ.2,Grows.refl _ _,Kept.refl _ _,M,HM.o.mono (Nat.le_succ _),HQ.1⟩⟩
  | none=>
   obtain⟨wa,hwa⟩:=zG (w.alloc (.map #[] 0));have HKA:Hid (Kept (fun _=>False) w wa):=zh (by rw[<-hwa];exact (Kept.refl _ w).alloc _);have HMA:Hid (MapIs Tryz.prog 9 okMp wa mb n M):=zh (by rw[<-hwa];exact HM.o.alloc _);have HNW:Hid (MapOf 3 T wa w.heap.size 0):=zh (by rw[<-hwa];exact MapOf.made _ _ _);clear HI0
   go_wp2_with (first
    | (at_mapUpdate;refine Zag _ rfl _ _ _ 196 rfl 9 214 (string_keyed Tryz.underlying9) Tryz.underlying196 okMp mb n M rfl HMA.o (by unfold maxLen;omega) _ (.map (some w.heap.size)) _ rfl rfl (WideMaps.keyOf_string_mk Tryz.underlying9 hxm) rfl ?_;intro w2 hm2 hg2 hs2;have HM2:=zh hm2;have HGG2:=zh hg2;have HSS2:=zh hs2;clear hm2 hg2 hs2)
    | fail)
   go_meet;have hk:Kept (fun i=>i=mb) w w2:=(HKA.o.mono (fun _ _ h=>h.elim)).grown HGG2.o (fun j hj=>Or.inl (by cases hj;rfl));have hall:=Zmt (kl:=.string x.data.toList) (g:=w.heap.size) HMS.o;obtain⟨Mn,hn1,hn2⟩:=HNW.o;refine⟨w.heap.size,zh ⟨fun q=>S q\/q=w.heap.size,fun q=>B q\/q=w.heap.size,HI.o.add1 hk (zr _) ⟨_,HM2.o,hall⟩ ⟨Mn,hn1.grown HGG2.o (fun e=>by injection e with e;omega),hn2⟩,Or.inr rfl,⟨fun q h=>Or.inl h,fun q h=>h.elim Or.inl (fun e=>Or.inr (by omega))⟩,hk.mono (fun i _ e=>by rw[e];exact (HI.o.all mb).2 (Or.inr (Or.inl rfl))),_,HM2.o,Zj5 _ _ _⟩⟩
 case rest=>
 obtain⟨q,HC⟩:=hcut;obtain⟨w3,rfl⟩:=zH wc;obtain⟨S1,B1,hI1,hq1,hg1,hk1,M1,hm1,hx1⟩:=HC.o;have HI1:=zh hI1;have HQ1:=zh hq1;have HG1:=zh hg1;have HK1:=zh hk1;have HM1:=zh hm1;have HX1:Hid ((M1 (.string x.data.toList)).getD (.map none) = .map (some q)):=zh (by rw[hx1];rfl);have c3:w3.cell? ⟨sb,1,none⟩=some (.map (some mb)):=hI1.blk.cell 1;obtain⟨M2,hM2,hM2S⟩:=hI1.mid q hq1;have HM2:=zh hM2;have HMS2:=zh hM2S;obtain⟨r2,hr2⟩:∃r,(M2 (.int .i64 t)).getD (.map none) = .map r:=by
  rcases Zgp hM2S (.int .i64 t) with ⟨q,_,_,h3⟩|⟨_,h3⟩
  ·exact⟨_,h3⟩
  ·exact⟨_,h3⟩
 have HR2:=zh hr2;have hqlt:q<w3.heap.size:=hM2.lt;have HZ3:=zh hk1.size;clear hI1 hq1 hg1 hk1 hm1 hx1 hM2 hM2S hr2 HC HR HM HMS c1 H1 H2 HI
 go_upto_if 51 with (first
  | (at_lookup;refine Zao _ rfl _ _ 196 rfl 9 214 (string_keyed Tryz.underlying9) Tryz.underlying196 okMp _ (zeroMm _) rfl mb (n+1) M1 rfl HM1.o _ _ rfl (WideMaps.keyOf_string_mk Tryz.underlying9 hxm) _ HX1.o ?_)
  | (at_lookup;refine Zao _ rfl _ _ 214 rfl 3 67 (int_keyed Tryz.underlying3) Tryz.underlying214 okMp _ (zeroMs _) rfl q (n+1) M2 rfl HM2.o _ _ rfl HKEY.o _ HR2.o ?_)
  | fail)
 go_cut [] (fun wx=>∃b,Hid (SsHas w wx sb mb gap B (n+2) q t b))
 case first=>
  cases r2 with
  | some b=>
   go_wp2_with fail;go_meet;have HQ:M2 (.int .i64 t)=some (.map (some b))/\T b:=by
    rcases Zgp HMS2.o (.int .i64 t) with ⟨q',h1,h2,h3⟩|⟨_,h3⟩
    ·rw[HR2.o]at h3;cases h3;exact⟨h1,h2⟩
    ·rw[HR2.o]at h3;cases h3
   have H:=HI1.o;exact⟨b,zh ⟨S1,T,B1,⟨H.blk,H.outer.mono (Nat.le_succ _),fun q hq=>(H.mid q hq).mono (Nat.le_succ _),fun q hq=>(H.inner q hq).mono (Nat.le_succ _),H.nm,H.nd,H.ne,H.st,H.all⟩,HQ1.o,HQ.2,HG1.o,HK1.o,M2,HM2.o.mono (Nat.le_succ _),HQ.1⟩⟩
  | none=>
   obtain⟨wa,hwa⟩:=zG (w3.alloc (.map #[] 0));have HKA:Hid (Kept (fun _=>False) w3 wa):=zh (by rw[<-hwa];exact (Kept.refl _ w3).alloc _);have HMA:Hid (MapIs Tryz.prog 3 okMp wa q (n+1) M2):=zh (by rw[<-hwa];exact HM2.o.alloc _);have HNW:Hid (SomeMap 9 okBool wa w3.heap.size 0):=zh (by rw[<-hwa];exact SomeMap.made _ _ _)
   go_wp2_with (first
    | (at_mapUpdate;refine Zag _ rfl _ _ _ 214 rfl 3 67 (int_keyed Tryz.underlying3) Tryz.underlying214 okMp q (n+1) M2 rfl HMA.o (by unfold maxLen;omega) _ (.map (some w3.heap.size)) _ rfl rfl HKEY.o rfl ?_;intro w2 hm2 hg2 hs2;have HM22:=zh hm2;have HGG2:=zh hg2;have HSS2:=zh hs2;clear hm2 hg2 hs2)
    | fail)
   go_meet;have hk:Kept (fun i=>i=q) w3 w2:=(HKA.o.mono (fun _ _ h=>h.elim)).grown HGG2.o (fun j hj=>Or.inl (by cases hj;rfl));have hall:=Zmt (kl:=.int .i64 t) (g:=w3.heap.size) HMS2.o;refine⟨w3.heap.size,zh ⟨S1,fun i=>T i\/i=w3.heap.size,fun i=>B1 i\/i=w3.heap.size,HI1.o.add2 HQ1.o hk (zr _) ⟨_,HM22.o,hall⟩ (HNW.o.grown HGG2.o (fun e=>by omega)),HQ1.o,Or.inr rfl,HG1.o.trans (n':=w3.heap.size) ⟨fun q h=>Or.inl h,fun q h=>h.elim Or.inl (fun e=>Or.inr (by omega))⟩ HZ3.o,HK1.o.trans' hk (fun i hi e=>?_),_,HM22.o,?_⟩⟩
   ·rcases HG1.o.new i (by rw[e];exact (HI1.o.all q).2 (Or.inr (Or.inr (Or.inl HQ1.o)))) with h1|h1
    ·exact h1
    ·omega
   ·unfold upd;rw[WideAt.sameKey_self (by trivial),if_pos rfl]
 case rest=>
 obtain⟨b,HC⟩:=hcut;obtain⟨w4,rfl⟩:=zH wc;obtain⟨S4,T4,B4,hI4,hq4,hb4,hg4,hk4,M4,hm4,hx4⟩:=HC.o;obtain⟨M5,hM5⟩:=hI4.inner b hb4;have HI4:=zh hI4;have HB4:=zh hb4;have HG4:=zh hg4;have HK4:=zh hk4;have HM4:=zh hm4;have HM5:=zh hM5;have HX4:Hid ((M4 (.int .i64 t)).getD (.map none) = .map (some b)):=zh (by rw[hx4];rfl);clear hI4 hq4 hb4 hg4 hk4 hm4 hx4 hM5 HC HI1 HQ1 HG1 HK1 HM1 HX1 HM2 HMS2 HR2 c3
 go_wp2_with (first
  | (at_lookup;refine Zao _ rfl _ _ 214 rfl 3 67 (int_keyed Tryz.underlying3) Tryz.underlying214 okMp _ (zeroMs _) rfl q (n+2) M4 rfl HM4.o _ _ rfl HKEY.o _ HX4.o ?_)
  | (at_mapUpdate;refine Zag _ rfl _ _ _ 67 rfl 9 4 (string_keyed Tryz.underlying9) Tryz.underlying67 okBool b (n+2) M5 rfl HM5.o (by unfold maxLen;omega) _ _ _ rfl rfl (WideMaps.keyOf_string_mk Tryz.underlying9 hym) rfl ?_;intro w5 hm5 hg5 hs5)
  | fail)
 go_ret;have hk:Kept (fun i=>i=b) w4 w5:=(Kept.refl _ w4).grown hg5 (fun j hj=>Or.inl (by cases hj;rfl));refine⟨rfl,B4,⟨mb,gap,S4,T4,HI4.o.add3 HB4.o hk ⟨_,hm5⟩⟩,HG4.o,HK4.o.trans' hk (fun i hi e=>?_)⟩;rcases HG4.o.new i (by rw[e];exact (HI4.o.all b).2 (Or.inr (Or.inr (Or.inr HB4.o)))) with h1|h1
 ·exact h1
 ·omega
end Go.Proofs.YtnpfaajhgghpgaaGreatDoor
