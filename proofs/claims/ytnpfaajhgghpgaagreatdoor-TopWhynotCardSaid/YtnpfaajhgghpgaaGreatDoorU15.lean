/- A part of the joined base. -/
import Derived.Test.YtnpfaajhgghpgaaGreatDoorU14
import Derived.Test.YtnpfaajhgghpgaaGreatDoorShelf
import Derived.Laws.RangeAny
import Derived.Laws.RangeString
import Derived.Laws.Runes
import Derived.WalkMore
import Derived.Test.YtnpfaajhgghpgaaGreatDoorLay3
import Derived.Lib.OthersKept
set_option linter.unusedVariables false
set_option maxHeartbeats 8000000
set_option maxRecDepth 1000000
namespace Go.Proofs.YtnpfaajhgghpgaaGreatDoor.Ru
open Go.RowKit Go.Maps
variable {L : Nat}
theorem below_drew {B:Nat}{a w:World}(h:Below B a w):Below B a w.drew:=h.trans ⟨rfl,rfl,rfl,zr _,fun _ _=>rfl⟩
theorem below_drewN {B:Nat}{a w:World}(h:Below B a w)(q:Nat):Below B a (w.drewN q):=h.trans ⟨rfl,rfl,rfl,zr _,fun _ _=>rfl⟩
def tkC (t:Tk):List Value:=[.string t.1,.int .i64 t.2]
theorem Zsg (t:Tk):(tkC t).length=2:=rfl
def tx (ts:List Tk):List ByteArray:=ts.map Prod.fst
def place (ts:List Tk)(en:Nat):Nat:=match ts with | []=>en|t::_=>t.2
structure PsIn (w:World) (pb L:Nat) (A:Option Addr) (n c:Nat) (ts:List Tk) (en d:Nat) (bad:Bool) (at_:Nat):Prop where
 blk:Blk w pb 80 #[.slice A n c,.int .i64 en,.int .i64 d,.bool bad,.int .i64 at_]
 row:RowIn w w.heap.size 2 A n (ts.flatMap tkC)
 len:ts.length=n
 cap:n<=c
 far:∀g o,A=some ⟨g,o,none⟩->g≠pb/\g<L
def PsAt (w:World)(pb L:Nat)(ts:List Tk)(en d:Nat)(bad:Bool)(at_:Nat):Prop:=∃A n c,PsIn w pb L A n c ts en d bad at_
theorem PsIn.keep {w w':World}{pb n c en d at_:Nat}{A:Option Addr}{ts:List Tk}{bad:Bool}(h:PsIn w pb L A n c ts en d bad at_)(hs:w.heap.size<=w'.heap.size)(hb:∀i,i<w.heap.size->w'.heap[i]? = w.heap[i]?):PsIn w' pb L A n c ts en d bad at_:=by
 refine⟨(hb pb h.blk.lt).trans h.blk,⟨h.row.1,?_⟩,h.len,h.cap,h.far⟩;rcases h.row.2 with h0|⟨b,off,e,hbl,hc⟩
 ·exact Or.inl h0
 ·refine Or.inr ⟨b,off,e,by omega,fun j u hu=>?_⟩;exact (World.cell?_of_block (hb b hbl)).trans (hc j u hu)
theorem PsAt.below {w w':World}{pb en d at_:Nat}{ts:List Tk}{bad:Bool}(h:PsAt w pb L ts en d bad at_)(k:Below w.heap.size w w'):PsAt w' pb L ts en d bad at_:=by
 obtain⟨A,n,c,h⟩:=h;exact⟨A,n,c,h.keep k.size (fun i hi=>k.block i hi)⟩
theorem PsAt.lt {w:World}{pb en d at_:Nat}{ts:List Tk}{bad:Bool}(h:PsAt w pb L ts en d bad at_):pb<w.heap.size:=by
 obtain⟨A,n,c,h⟩:=h;exact h.blk.lt
theorem PsIn.set {w:World}{pb n c en d at_ en' d' at':Nat}{A:Option Addr}{ts:List Tk}{bad bad':Bool}(h:PsIn w pb L A n c ts en d bad at_)(i:Nat)(u:Value)(hc:(#[.slice A n c,.int .i64 en,.int .i64 d,.bool bad,.int .i64 at_]:Array Value).setIfInBounds i u=#[.slice A n c,.int .i64 en',.int .i64 d',.bool bad',.int .i64 at']):PsIn (w.setCell ⟨pb,i,none⟩ u) pb L A n c ts en' d' bad' at':=by
 refine⟨by rw[<-hc];exact h.blk.set_ i u,⟨h.row.1,?_⟩,h.len,h.cap,h.far⟩;rcases h.row.2 with h0|⟨b,off,e,hbl,hcc⟩
 ·exact Or.inl h0
 ·refine Or.inr ⟨b,off,e,by simpa [World.setCell] using hbl,fun j u' hu=>?_⟩;exact (World.cell?_of_block (Below.heap_setCell w ⟨pb,i,none⟩ u b (h.far b off e).1)).trans (hcc j u' hu)
theorem PsIn.at {w:World}{pb n c en d at_:Nat}{A:Option Addr}{t:Tk}{r:List Tk}{bad:Bool}(h:PsIn w pb L A n c (t::r) en d bad at_):∃g o,A=some ⟨g,o,none⟩/\g≠pb/\g<w.heap.size/\w.cell? ⟨g,o,none⟩=some (.string t.1)/\w.cell? ⟨g,o+1,none⟩=some (.int .i64 t.2):=by
 obtain⟨g,o,e,hg,hc⟩:=h.row.at (by have:=h.len;simp at this;omega);exact⟨g,o,e,(h.far g o e).1,hg,hc 0 _ rfl,hc 1 _ rfl⟩
theorem PsIn.drop {w:World}{pb n c en d at_:Nat}{A:Option Addr}{t:Tk}{r:List Tk}{bad:Bool}(h:PsIn w pb L A n c (t::r) en d bad at_):PsIn (w.setCell ⟨pb,0,none⟩ (.slice (if c=1 then A else A.map (·.add 2)) (n - 1) (c - 1))) pb L (if c=1 then A else A.map (·.add 2)) (n - 1) (c - 1) r en d bad at_:=by
 obtain⟨g,o,rfl,hg,hgl,_⟩:=h.at;have hgL:=(h.far g o rfl).2;have hcut:=h.row.cut (k:=1) (cap:=c) (by have:=h.len;simp at this;omega) h.cap;rw[Zhh tkC 2 Zsg,List.drop_one,List.tail_cons]at hcut;refine⟨h.blk.set_ 0 _,⟨hcut.1,?_⟩,by have:=h.len;simp at this;omega,by have:=h.cap;omega,fun g' o' e=>?_⟩
 ·rcases hcut.2 with h0|⟨b,off,e,hbl,hcc⟩
  ·exact Or.inl h0
  ·refine Or.inr ⟨b,off,e,by simpa [World.setCell] using hbl,fun j u' hu=>?_⟩;have hb:b=g:=by
    split at e
    ·injection e with e;injection e with e;exact e.symm
    ·simp only[Option.map_some,at_add]at e;injection e with e;injection e with e;exact e.symm
   exact (World.cell?_of_block (Below.heap_setCell w ⟨pb,0,none⟩ _ b (by rw[hb];exact hg))).trans (hcc j u' hu)
 ·split at e
  ·injection e with e;injection e with e;rw[<-e];exact⟨hg,hgL⟩
  ·simp only[Option.map_some,at_add]at e;injection e with e;injection e with e;rw[<-e];exact⟨hg,hgL⟩
theorem Zgx (pb en d at_:Nat)(ts:List Tk)(w:World)(h:PsAt w pb L ts en d true at_) :
  Calls Tryz.prog 51 #[.pointer (some ⟨pb,0,none⟩)] w fun e w'=>e = .returned (.string ⟨#[]⟩)/\Below w.heap.size w w':=by
 obtain⟨A,n,c,h⟩:=h;have c3:w.cell? ⟨pb,3,none⟩=some (.bool true):=h.blk.cell 3;clear h;go_enter Tryz.func51,Tryz.ntmps51;go_wp2_with fail;go_ret;exact⟨rfl,Below.refl _ _⟩
theorem Zdt (pb en d at_:Nat)(ts:List Tk)(w:World)(h:PsAt w pb L ts en d false at_) :
  Calls Tryz.prog 51 #[.pointer (some ⟨pb,0,none⟩)] w fun e w'=>e = .returned (.string (hd (tx ts)))/\Below w.heap.size w w':=by
 obtain⟨A,n,c,h⟩:=h;have c3:w.cell? ⟨pb,3,none⟩=some (.bool false):=h.blk.cell 3;have c0:w.cell? ⟨pb,0,none⟩=some (.slice A n c):=h.blk.cell 0;have hl:=h.len;cases ts with
 | nil=>
  simp only[List.length_nil]at hl;subst hl;clear h;go_enter Tryz.func51,Tryz.ntmps51;go_wp2_with fail;go_ret;exact⟨rfl,Below.refl _ _⟩
 | cons t r=>
  obtain⟨g,o,rfl,hg,_,e0,_⟩:=h.at;have hn:((n:Int) == 0)=false:=by simp only[List.length_cons]at hl;simp;omega
  have hn2:(0:Int)<(n:Int):=by simp only[List.length_cons]at hl;omega
  clear h hl;go_enter Tryz.func51,Tryz.ntmps51;go_wp2_with fail;go_ret;exact⟨rfl,Below.refl _ _⟩
theorem Zc4 (pb en d at_:Nat)(t:Tk)(r:List Tk)(w:World)(h:PsAt w pb L (t::r) en d false at_) :
  Calls Tryz.prog 52 #[.pointer (some ⟨pb,0,none⟩)] w fun e w'=>e = .returned (.tuple #[])/\PsAt w' pb L r en d false at_/\Kept (fun i=>i=pb) w w':=by
 obtain⟨A,n,c,h⟩:=h;have c0:w.cell? ⟨pb,0,none⟩=some (.slice A n c):=h.blk.cell 0;have f0:w.frozen? ⟨pb,0,none⟩=false:=h.blk.frozen 0;have hl:=h.len;have hcap:=h.cap;have H:=zh h.drop;have hn2:(1:Int)<=(n:Int):=by simp only[List.length_cons]at hl;omega
 have hK:Hid (Kept (fun i=>i=pb) w (w.setCell ⟨pb,0,none⟩ (.slice (if c=1 then A else A.map (·.add 2)) (n - 1) (c - 1)))):=zh ((Kept.refl (fun i=>i=pb) w).setCell (p:=⟨pb,0,none⟩) (Or.inl rfl) _);clear h hl;by_cases hc1:c=1
 ·subst hc1;obtain rfl:n=1:=by omega
  rw[if_pos rfl]at H hK;go_enter Tryz.func52,Tryz.ntmps52;go_wp2_with fail;go_end0;exact⟨rfl,⟨_,_,_,H.o⟩,hK.o⟩
 ·rw[if_neg hc1]at H hK;go_enter Tryz.func52,Tryz.ntmps52;go_wp2_with fail;go_end0;exact⟨rfl,⟨_,_,_,H.o⟩,hK.o⟩
theorem Zev (pb en d at_:Nat)(ts:List Tk)(w:World)(h:PsAt w pb L ts en d false at_) :
  Calls Tryz.prog 19 #[.pointer (some ⟨pb,0,none⟩)] w fun e w'=>e = .returned .nilIface/\PsAt w' pb L ts en d true (place ts en)/\Kept (fun i=>i=pb) w w':=by
 obtain⟨A,n,c,h⟩:=h;have c3:w.cell? ⟨pb,3,none⟩=some (.bool false):=h.blk.cell 3;have c1:w.cell? ⟨pb,1,none⟩=some (.int .i64 en):=h.blk.cell 1;have c4:w.cell? ⟨pb,4,none⟩=some (.int .i64 at_):=h.blk.cell 4;have f3:w.frozen? ⟨pb,3,none⟩=false:=h.blk.frozen 3;have h1:=h.set (bad':=true) (at':=at_) (en':=en) (d':=d) 3 (.bool true) (by simp);have f4:(w.setCell ⟨pb,3,none⟩ (.bool true)).frozen? ⟨pb,4,none⟩=false:=h1.blk.frozen 4;have h2:=h1.set (bad':=true) (at':=en) (en':=en) (d':=d) 4 (.int .i64 en) (by simp);obtain⟨w2,hw2⟩:=zG ((w.setCell ⟨pb,3,none⟩ (.bool true)).setCell ⟨pb,4,none⟩ (.int .i64 en));have HK2:Hid (Kept (fun i=>i=pb) w w2):=zh (by rw[<-hw2];exact ((Kept.refl (fun i=>i=pb) w).setCell (p:=⟨pb,3,none⟩) (Or.inl rfl) _).setCell (p:=⟨pb,4,none⟩) (Or.inl rfl) _);rw[hw2]at h2;have k0:w2.cell? ⟨pb,0,none⟩=some (.slice A n c):=h2.blk.cell 0;have hl:=h.len;clear h h1;cases ts with
 | nil=>
  simp only[List.length_nil]at hl;subst hl;have H2:=zh h2;clear h2;go_enter Tryz.func19,Tryz.ntmps19;go_upto_region 3 with fail;clear hw2 c3 c1 c4 f3 f4;go_wp2_with fail;go_ret;exact⟨rfl,⟨A,_,c,H2.o⟩,HK2.o⟩
 | cons t r=>
  obtain⟨g,o,rfl,hg,_,_,e1⟩:=h2.at;have hn2:(0:Int)<(n:Int):=by simp only[List.length_cons]at hl;omega
  have c4':w2.cell? ⟨pb,4,none⟩=some (.int .i64 en):=h2.blk.cell 4;have f4':w2.frozen? ⟨pb,4,none⟩=false:=h2.blk.frozen 4;have H3:=zh (h2.set (bad':=true) (at':=t.2) (en':=en) (d':=d) 4 (.int .i64 t.2) (by simp));have HK3:Hid (Kept (fun i=>i=pb) w (w2.setCell ⟨pb,4,none⟩ (.int .i64 t.2))):=zh (HK2.o.setCell (p:=⟨pb,4,none⟩) (Or.inl rfl) _);clear h2 hl;go_enter Tryz.func19,Tryz.ntmps19;go_upto_region 3 with fail;clear hw2 c3 c1 c4 f3 f4;go_wp2_with fail;go_ret;exact⟨rfl,⟨_,n,c,H3.o⟩,HK3.o⟩
end Go.Proofs.YtnpfaajhgghpgaaGreatDoor.Ru
namespace Go.Proofs.YtnpfaajhgghpgaaGreatDoor.Ru
open Go.RowKit Go.Maps Go.Shelf
theorem Zlf (s:ByteArray)(pos:Nat)(h:pos<s.size)(ha:128<=(s[pos]'h).toNat):(∀j (hj:j<s.size),pos<=j->j<pos+(Utf8.decode s pos).2->128<=(s[j]'hj).toNat)/\128<=(Utf8.decode s pos).1/\1<=(Utf8.decode s pos).2/\Utf8.valid ((Utf8.decode s pos).1:Int)=true:=by
 obtain⟨h1,h2⟩:=decode_high s pos h ha;have hget:∀k (hk:k<s.size),s.get! k=s[k]'hk:=fun k hk=>by simpa using get_at s k hk
 have hget0:=hget pos h;refine⟨?_,h1,h2,?_⟩
 ·intro j hj hp hlt;by_cases e:j=pos
  ·subst e;exact ha
  ·have hg:∀k,pos+k<s.size->(s.get! (pos+k)).toNat / 64=2->∀(hk:pos+k<s.size),128<=(s[pos+k]'hk).toNat:=fun k _ h3 hk=>by
    rw[hget (pos+k) hk]at h3;omega
   obtain⟨d,rfl⟩:∃d,j=pos+d:=⟨j - pos,by omega⟩
   have hd:d<(Utf8.decode s pos).2:=by omega
   have hd0:1<=d:=by omega
   clear hlt;have hn:¬(s[pos]'h).toNat<128:=by omega
   simp only[Utf8.decode,Nat.add_zero,hget0,hn,if_false]at hd;split at hd
   ·rename_i hc
    split at hd
    ·obtain rfl:d=1:=by dsimp only at hd;omega
     simp only[Bool.and_eq_true,decide_eq_true_eq,beq_iff_eq]at hc;exact hg 1 hj hc.2.2 hj
    ·dsimp only at hd;omega
   ·split at hd
    ·rename_i hc
     split at hd
     ·simp only[Bool.and_eq_true,decide_eq_true_eq,beq_iff_eq]at hc;have:d=1\/d=2:=by dsimp only at hd;omega
      rcases this with rfl|rfl
      ·exact hg 1 hj hc.1.2.2 hj
      ·exact hg 2 hj hc.2.2 hj
     ·dsimp only at hd;omega
    ·split at hd
     ·rename_i hc
      split at hd
      ·simp only[Bool.and_eq_true,decide_eq_true_eq,beq_iff_eq]at hc;have:d=1\/d=2\/d=3:=by dsimp only at hd;omega
       rcases this with rfl|rfl|rfl
       ·exact hg 1 hj hc.1.1.2.2 hj
       ·exact hg 2 hj hc.1.2.2 hj
       ·exact hg 3 hj hc.2.2 hj
      ·dsimp only at hd;omega
     ·dsimp only at hd;omega
 ·have hn:¬(s[pos]'h).toNat<128:=by omega
  simp only[Utf8.decode,Nat.add_zero,hget0,hn,if_false];have hb:∀k,(s.get! k).toNat<256:=fun k=>(s.get! k).toNat_lt
  repeat' split
  all_goals first
   | decide
   | (rename_i hc hc2;simp only[Bool.and_eq_true]at hc2;exact hc2.2)
   | (simp only[Utf8.valid,Bool.or_eq_true,Bool.and_eq_true,decide_eq_true_eq];omega)
theorem Ztv (r:Nat)(w:World)(hv:Utf8.valid (r:Int)=true):Calls Tryz.prog 120 #[.int .i32 r] w fun e w'=>e = .returned (.bool true)/\w=w':=by
 simp only[Utf8.valid,Bool.or_eq_true,Bool.and_eq_true,decide_eq_true_eq]at hv;go_enter Tryz.func120,Tryz.ntmps120;go_wp2
 all_goals first
  | (go_ret;exact⟨rfl,rfl⟩)
  | (exfalso;omega)
theorem Zfc (b:UInt8):∀l:List UInt8,(∀x∈l,x≠b)->Lib.indexByte l b = -1
 | [],_=>by simp[Lib.indexByte]
 | x::l,h=>by
  have ih:=Zfc b l (fun y hy=>h y (by simp[hy]));have hx:=h x (by simp);simp[Lib.indexByte,ih,hx]
end Go.Proofs.YtnpfaajhgghpgaaGreatDoor.Ru
namespace Go.Proofs.YtnpfaajhgghpgaaGreatDoor.Ru
open Go.RowKit Go.Maps Go.Shelf
theorem Zm3 {s:ByteArray}{f:Nat}(j:Nat):(s.extract f s.size).data.toList[j]? = s.data.toList[f+j]?:=by
 simp[List.getElem?_take];intro h;omega
theorem Zh2 (chars:ByteArray)(r:Nat)(w:World)(hr:128<=r)(hv:Utf8.valid (r:Int)=true)(hc:∀(j:Nat) b,chars.data.toList[j]? = some b->b.toNat<128)(hs:chars.size<=100000) :
  Calls Tryz.prog 94 #[.string chars,.int .i32 r] w fun e w'=>e = .returned (.int .i64 (-1))/\Below w.heap.size w w':=by
 have HC:=zh hc;have HV:=zh hv;have hr2:r<=1114111:=by
  simp only[Utf8.valid,Bool.or_eq_true,Bool.and_eq_true,decide_eq_true_eq]at hv;omega
 clear hc hv;by_cases he:r=65533
 ·subst he;go_enter Tryz.func94,Tryz.ntmps94;go_wp2;go_loopw [5,6] (fun _ _ wr=>∃i:Nat,i<=chars.size/\wr=w.iter chars i) (fun _ _ wr=>chars.size - wr.iterPos w.heap.size)
  case atStart=>exact⟨0,Nat.zero_le _,rfl⟩
  case round=>
   obtain⟨i,hi,rfl⟩:=hrel;by_cases hlt:i<chars.size
   ·have hx:=HC.o i (chars[i]'hlt) (Lib.data_getElem? chars i hlt);have hnx:=fun ty=>run_next_ascii (P:=Tryz.prog) w chars i ty hlt hx;have hne:(((chars[i]'hlt).toNat:Int) == 65533)=false:=by
     rw[beq_eq_false_iff_ne];omega
    go_wp2;go_roundw
    case rel=>exact⟨i+1,by omega,rfl⟩
    case measure=>simp;omega
   ·have hnx:=run_next_end (P:=Tryz.prog) w chars i;go_wp2;go_ret;exact⟨rfl,(Below.refl _ _).alloc (zr _) _⟩
 ·obtain⟨f1,f2,f3⟩:=encode_facts (r:Int) HV.o (by omega);have hne:(((r:Nat):Int) == 65533)=false:=by
   rw[beq_eq_false_iff_ne];omega
  obtain⟨t,ht⟩:=zG (Utf8.encode (r:Int));rw[ht]at f1 f2 f3;have hvr:=Ztv r w HV.o
  have hcv:∀V,(convert 21 9 (.int .i32 r)).run Tryz.prog V = .ok (.string t) V:=fun V=>by
   rw[run_convert_int_string V _ _ _ _ (by kernel_rfl) (by kernel_rfl),ht]
  obtain⟨m,hm⟩:∃m,t.size=m+1:=⟨t.size - 1,by omega⟩
  have hb:m<t.size:=by omega
  have hb8:(m:Int)<(t.size:Int):=by omega
  have hmi:(t.size:Int) - 1=(m:Int):=by omega
  have hbh:128<=(t[m]'hb).toNat:=by
   have e:t.size - 1=m:=by omega
   have h4:=f3 (by omega);simp only[e]at h4;exact h4
  have HBH:=zh hbh;obtain⟨z,hz⟩:=zG (t[m]'hb);rw[hz]at HBH;have hm3:m<=3:=by omega
  have hwm:wrap64 (m:Int)=(m:Int):=by unfold wrap64;omega
  have hwi:IntKind.i64.wrap (m:Int)=(m:Int):=by rw[IntKind.wrap_i64];omega
  have hm0:(0:Int)<=(m:Int):=by omega
  clear f1 f2 f3 hbh;go_enter Tryz.func94,Tryz.ntmps94;go_wp2_with fail;refine hvr.mono ?_;rintro e _ ⟨rfl,rfl⟩;go_wp2_with fail;go_step3;go_wp2_with fail;go_loopw [9,10] (fun i f wr=>i = .int .i64 m/\f = .int .i64 0/\wr=w) (fun _ _ _=>0)
  case atStart=>exact⟨rfl,rfl,rfl⟩
  case round=>
   obtain⟨rfl,rfl,rfl⟩:=hrel;by_cases hlt:m<chars.size
   ·have hx:=HC.o m (chars[m]'hlt) (Lib.data_getElem? chars m hlt);have hlt8:(m:Int)<(chars.size:Int):=by omega
    have q1:(((chars[m]'hlt).toNat:Int) == (z.toNat:Int))=false:=by
     rw[beq_eq_false_iff_ne];have:=HBH.o;omega
    have hkw:IntKind.i64.wrap ((m:Int)+1)=(m:Int)+1:=by rw[IntKind.wrap_i64];omega
    have hkt:((m:Int)+1).toNat=m+1:=by omega
    have hkk:(m:Int)+1<=(chars.size:Int):=by omega
    have hib:Lib.indexByte (chars.extract (m+1) chars.size).data.toList z = -1:=Zfc z _ (fun x hx e=>by
     obtain⟨j,hj⟩:=List.mem_iff_getElem?.1 hx;rw[Zm3]at hj;have:=HC.o _ x hj;have:=HBH.o;rw[<-e]at this;omega)
    have HIB:=zh hib;clear hib;go_wp2_with fail;go_step3;go_wp2_with fail;refine Zar (fun _=>True) [(0,false),(1,false),(2,false),(3,false),(4,false),(5,false),(6,false)] (by kernel_rfl) (by kernel_rfl) trivial ?_;simp only[planL,xq4,xq5]
    repeat ((first|(refine Zaf _ (by rfl) (fun W hW=>by (go_simp;try (first|with_reducible rfl|rw[if_neg (by omega)]|rw[if_pos (by omega)]))) ?_)|(refine Zac (by rfl) ?_));simp only[Act.put,xq1,xq2,xq3])
    refine Zah ?_;go_wp2_with fail;refine Zar (fun _=>True) [(0,false),(1,false),(2,false),(3,false),(4,false),(5,false),(6,false),(7,true),(8,false)] (by kernel_rfl) (by kernel_rfl) trivial ?_;simp only[planL,xq4,xq5]
    repeat ((first|(refine Zaf _ (by rfl) (fun W hW=>by (go_simp;try (first|with_reducible rfl|rw[if_neg (by omega)]|rw[if_pos (by omega)]))) ?_)|(refine Zac (by rfl) ?_));simp only[Act.put,xq1,xq2,xq3])
    refine Zae ?_;go_wp2_with fail;refine (Tryz.strings_IndexByte (chars.extract (m+1) chars.size) (z.toNat:Int) _).mono ?_;rintro e _ ⟨rfl,rfl⟩;have hz8:((z.toNat:Int).toNat).toUInt8=z:=by simp
    rw[hz8,HIB.o];go_wp2_with fail;refine⟨trivial,?_⟩
    repeat ((first|(refine Zaf _ (by rfl) (fun W hW=>by (go_simp;try with_reducible rfl)) ?_)|(refine Zac (by rfl) ?_));simp only[Act.put,xq1,xq2,xq3])
    refine Zah ?_;go_wp2_with fail;try rw[Exit.noGoto_ret]
    refine (show bodyPost Tryz.prog Tryz.f94 (fun e w'=>e = .returned (.int .i64 (-1))/\Below wr.heap.size wr w') Exit.ret _ _ from ?_);go_ret;exact⟨rfl,Go.Proofs.YtnpfaajhgghpgaaGreatDoor.Ru.below_drew (Go.Proofs.YtnpfaajhgghpgaaGreatDoor.Ru.below_drew (Below.refl _ _))⟩
   ·have hlt8:¬(m:Int)<(chars.size:Int):=by omega
    go_wp2_with fail;try rw[Exit.noGoto_ret]
    go_ret;exact⟨rfl,Below.refl _ _⟩
end Go.Proofs.YtnpfaajhgghpgaaGreatDoor.Ru
namespace Go.Proofs.YtnpfaajhgghpgaaGreatDoor.Ru
open Go.RowKit Go.Maps Go.Shelf
theorem Zh3 (b:UInt8):∀l:List UInt8,b∈l->0<=Lib.indexByte l b
 | [],h=>by simp at h
 | x::l,h=>by
  by_cases e:x=b
  ·simp[Lib.indexByte,e]
  ·have ih:=Zh3 b l (by
    rcases List.mem_cons.1 h with h|h
    ·exact absurd h.symm e
    ·exact h)
   have hx:(x == b)=false:=beq_eq_false_iff_ne.2 e;unfold Lib.indexByte;simp only[hx,Bool.false_eq_true,if_false];split
   ·rename_i h2
    have:=beq_iff_eq.1 h2;omega
   ·omega
theorem Zm4 (n:Nat)(w:World)(h:n<=8):Calls Tryz.prog 95 #[.int .i64 n] w fun e w'=>e = .returned (.bool false)/\w=w':=by
 have q0:decide ((8:Int)<(n:Int))=false:=decide_eq_false (by omega);go_enter Tryz.func95,Tryz.ntmps95;go_wp2_with fail;go_ret;exact⟨rfl,rfl⟩
theorem Zi5 (s:ByteArray)(r:Int)(w:World)(h0:0<=r)(h1:r<128) :
  Calls Tryz.prog 94 #[.string s,.int .i32 r] w fun e w'=>e = .returned (.int .i64 (Lib.indexByte s.data.toList r.toNat.toUInt8))/\w'=w:=Any.strings_IndexRune_ascii { Tryz.laysAny with } s r w h0 h1
theorem Zd9 {wr:World}{g:Nat}{s:ByteArray}{pos:Nat}(h:wr.heap[g]? = some (.stringIter s pos)):wr.iterPos g=pos:=by
 simp[World.iterPos,h]
theorem Zf0 (s chars:ByteArray)(w:World)(h2:2<=chars.size)(hcs:chars.size<=1000)(hs:s.size<=1000000)(hc:∀(j:Nat) b,chars.data.toList[j]? = some b->b.toNat<128) :
  Calls Tryz.prog 49 #[.string s,.string chars] w fun e w'=>e = .returned (.int .i64 (Lib.indexAny s.data.toList chars.data.toList))/\Below w.heap.size w w':=by
 by_cases h8:8<s.size
 ·exact (Any.strings_IndexAny_long Tryz.laysAny (fun w=>by kernel_rfl) (by kernel_rfl) s chars w h2 h8 (by omega) (by omega) hc).mono fun e w' ⟨e1,e2⟩=>⟨e1,by rw[e2];exact ((Below.refl _ _).alloc (zr _) _).alloc (by simp) _⟩
 have HC:=zh hc;have HAS:=zh (Zm4 s.size w (by omega));have hne:chars.toList.isEmpty=false:=by
  rw[Lib.toList_data];cases h:chars.data.toList with
  | nil => have : chars.data.toList.length = 0 := by rw [h]; rfl
           have h3:chars.data.toList.length=chars.size:=by simp
           omega
  | cons a l=>rfl
 have hn1:((chars.size:Int) == 1)=false:=by rw[beq_eq_false_iff_ne];omega
 have hn2:¬(chars.size:Int)=1:=by omega
 clear hc;go_enter Tryz.func49,Tryz.ntmps49;go_wp2_with fail;refine HAS.o.mono ?_;rintro e _ ⟨rfl,rfl⟩;go_wp2_with fail;go_loopw [9,10] (fun _ _ wr=>∃pos:Nat,Hid (wr.heap[w.heap.size]? = some (.stringIter s pos))/\Hid (Lib.NoAny s.data.toList chars.data.toList pos)/\Hid (Below w.heap.size w wr)) (fun _ _ wr=>s.size - wr.iterPos w.heap.size)
 case atStart=>exact⟨0,zh (World.iter_heap w s 0),zh (Lib.NoAny.zero _ _),zh ((Below.refl _ _).alloc (zr _) _)⟩
 case round=>
  obtain⟨pos,hit,hno,hbw⟩:=hrel;have hgl:w.heap.size<wr.heap.size:=(Array.getElem?_eq_some_iff.1 hit.o).1;by_cases hlt:pos<s.size
  ·obtain⟨R,hR⟩:=zG ((Utf8.decode s pos).1);obtain⟨K,hK⟩:=zG ((Utf8.decode s pos).2)
   have hnx:∀ty,(Instr.next (.pointer (some ⟨w.heap.size,0,none⟩)) true ty).run Tryz.prog wr = .ok (.tuple #[.bool true,.int .i64 pos,.int .i32 R]) (wr.iterAt w.heap.size s (pos+K)):=fun ty=>by
    rw[<-hR,<-hK];exact Lib.run_next_any_at wr w.heap.size s pos ty hit.o hlt
   have HIT2:=zh (Lib.iterAt_heap wr w.heap.size s pos (pos+K) hit.o);have HBW2:=zh (Lib.below_iterAt hbw.o (k:=w.heap.size) (zr _) s (pos+K));have hsz2:(wr.iterAt w.heap.size s (pos+K)).heap.size=wr.heap.size:=Lib.iterAt_size wr _ _ _;have HZ2:=zh hsz2;clear hsz2;obtain⟨W,hWd⟩:=zG (wr.iterAt w.heap.size s (pos+K));rw[hWd]at hnx HIT2 HBW2 HZ2;have HIP:Hid (wr.iterPos w.heap.size=pos):=zh (Zd9 hit.o);clear hWd;by_cases ha:(s[pos]'hlt).toNat<128
   ·have hd:=decode_ascii s pos hlt ha;have hR2:R=(s[pos]'hlt).toNat:=by rw[<-hR,hd]
    have hK1:K=1:=by rw[<-hK,hd]
    have HIR:=zh (Zi5 chars (R:Int) W (by omega) (by rw[hR2];omega));have hb:((R:Int).toNat).toUInt8=s[pos]'hlt:=by rw[Int.toNat_natCast,hR2];simp
    rw[hb]at HIR;have HK1:=zh hK1;clear hR2 hK1 hR hK;have hx:s.data.toList[pos]? = some (s[pos]'hlt):=Lib.data_getElem? s pos hlt;by_cases hm:s[pos]'hlt∈chars.data.toList
    ·have h0:=Zh3 _ _ hm;have HEQ:Hid (Lib.indexAny s.data.toList chars.data.toList=(pos:Int)):=zh (Lib.indexAny_hit hno.o hx (by simpa using hm));obtain⟨q,hq⟩:=zG (Lib.indexByte chars.data.toList (s[pos]'hlt));rw[hq]at HIR h0;have h0':decide (0<=q)=true:=decide_eq_true h0;clear hq hb hd hx hm;go_wp2_with fail;refine HIR.o.mono ?_;rintro e _ ⟨rfl,rfl⟩;go_wp2_with fail;go_ret;rw[HEQ.o];exact⟨rfl,HBW2.o⟩
    ·have h0:=Zfc (s[pos]'hlt) chars.data.toList (fun x hx2 e=>hm (by rw[<-e];exact hx2));rw[h0]at HIR;have HNO2:=zh (hno.o.succ hx (by simpa using hm));clear hb hd hx hm h0;go_wp2_with fail;refine HIR.o.mono ?_;rintro e _ ⟨rfl,rfl⟩;go_wp2_with fail;go_roundw
     case rel=>exact⟨pos+1,zh (by have:=HIT2.o;rw[HK1.o]at this;exact this),HNO2,HBW2⟩
     case measure=>rw[HIP.o,Zd9 HIT2.o,HK1.o];omega
   ·have hr:=Zlf s pos hlt (by omega);rw[hR,hK]at hr;obtain⟨hr1,hr2,hr3,hr4⟩:=hr;have HIR:=zh (Zh2 chars R W hr2 hr4 HC.o (by omega))
    have HNO2:Hid (Lib.NoAny s.data.toList chars.data.toList (pos+K)):=zh (fun j b hj hb=>by
     by_cases e:j<pos
     ·exact hno.o j b e hb
     ·have hjl:j<s.size:=by simpa using (List.getElem?_eq_some_iff.1 hb).1
      have h3:=hr1 j hjl (by omega) hj;have hb2:s[j]'hjl=b:=by
       have:=Lib.data_getElem? s j hjl;rw[this]at hb;injection hb
      rw[hb2]at h3;rw[Bool.eq_false_iff];intro h4;have h5:b∈chars.data.toList:=by simpa using h4
      obtain⟨q,hq⟩:=List.mem_iff_getElem?.1 h5;have:=HC.o q b hq;omega)
    have HR3:=zh hr3;clear hr1 hr4 hr3 hR hK;go_wp2_with fail;refine HIR.o.mono ?_;rintro e W2 ⟨rfl,hb2⟩;have HB3:=zh hb2;have HIT3:Hid (W2.heap[w.heap.size]? = some (.stringIter s (pos+K))):=zh ((hb2.block _ (by rw[HZ2.o];exact hgl)).trans HIT2.o);clear hb2;go_wp2_with fail;go_roundw
    case rel=>exact⟨pos+K,HIT3,HNO2,zh (HBW2.o.trans (HB3.o.mono HBW2.o.size))⟩
    case measure=>rw[HIP.o,Zd9 HIT3.o];have:=HR3.o;omega
  ·have hnx:∀ty,(Instr.next (.pointer (some ⟨w.heap.size,0,none⟩)) true ty).run Tryz.prog wr = .ok (.tuple #[.bool false]) wr:=fun ty=>Lib.run_next_end_at wr w.heap.size s pos ty hit.o hlt
   have HEQ:Hid (Lib.indexAny s.data.toList chars.data.toList = -1):=zh (Lib.indexAny_none (fun j b hj hb=>by
    have h3:s.data.toList.length=s.size:=by simp
    exact hno.o j b (by omega) hb))
   go_wp2_with fail;go_ret;rw[HEQ.o];exact⟨rfl,hbw.o⟩
end Go.Proofs.YtnpfaajhgghpgaaGreatDoor.Ru
