/- A part of the joined base. -/
import Derived.Test.YtnpfaajhgghpgaaGreatDoorU15
set_option linter.unusedVariables false
set_option maxHeartbeats 8000000
set_option maxRecDepth 100000
namespace Go.Proofs.YtnpfaajhgghpgaaGreatDoor.Ru
open Go.RowKit Go.Maps Go.Shelf
theorem Zb5 (chars:List UInt8):∀l:List UInt8,(Lib.indexAny l chars = -1/\∀(j:Nat) b,l[j]? = some b->chars.contains b=false)\/∃(i:Nat) (x:UInt8),Lib.indexAny l chars=i/\(∀(j:Nat) b,j<i->l[j]? = some b->chars.contains b=false)/\l[i]? = some x/\chars.contains x=true
 | []=>Or.inl ⟨rfl,fun j b h=>by simp at h⟩
 | b::l=>by
  by_cases hb:chars.contains b=true
  ·exact Or.inr ⟨0,b,by rw[Lib.indexAny,if_pos hb];rfl,fun j b h=>by omega,rfl,hb⟩
  ·have hb':chars.contains b=false:=by simpa using hb
   have hall:∀{P:Nat->Prop},(∀(j:Nat) d,P j->l[j]? = some d->chars.contains d=false)->∀(j:Nat) d,(j=0\/∃q,j=q+1/\P q)->(b::l)[j]? = some d->chars.contains d=false:=fun h j d hj hd=>by
    rcases hj with rfl|⟨q,rfl,hq⟩
    ·simp at hd;subst hd;exact hb'
    ·exact h q d hq (by simpa using hd)
   rcases Zb5 chars l with ⟨h1,h2⟩|⟨i,x,h1,h2,h3,h4⟩
   ·refine Or.inl ⟨by rw[Lib.indexAny,if_neg hb,h1];rfl,fun j d hd=>?_⟩;refine hall (P:=fun _=>True) (fun j d _ hd=>h2 j d hd) j d ?_ hd;cases j with
    | zero=>exact Or.inl rfl
    | succ q=>exact Or.inr ⟨q,rfl,trivial⟩
   ·refine Or.inr ⟨i+1,x,by rw[Lib.indexAny,if_neg hb,h1,if_neg (fun e=>by have:=beq_iff_eq.1 e;omega)];push_cast;rfl,fun j d hj hd=>?_,by simpa using h3,h4⟩;refine hall (P:=fun q=>q<i) h2 j d ?_ hd;cases j with
    | zero=>exact Or.inl rfl
    | succ q=>exact Or.inr ⟨q,rfl,by omega⟩
theorem info_parts {P:Program}{e:TypeId}{z:Value}{n b:Nat}(h:(P.info? e).map (fun i=>(i.zero,i.size,i.bytes))=some (some z,n,b)):∃i,P.info? e=some i/\i.zero=some z/\i.size=n/\i.bytes=b:=by
 cases hi:P.info? e with
 | none=>rw[hi]at h;cases h
 | some i=>
  rw[hi]at h;simp only[Option.map_some,Option.some.injEq,Prod.mk.injEq]at h;exact⟨i,rfl,h.1,h.2.1,h.2.2⟩
theorem own_shape {w:World}{base n:Nat}{e:TypeId}{size:Nat}{v:Value}{xs:List Value}(h:w.ownsRow base e size v n xs):∃A c,v = .slice A n c:=by
 rcases h.2 with ⟨rfl,h2⟩|⟨g,cap,cur,rfl,_⟩
 ·exact⟨none,0,by rw[h2]⟩
 ·exact⟨_,_,rfl⟩
theorem Za9 {w w':World}{base e size n:Nat}{v:Value}{xs:List Value}(h:w.ownsRow base e size v n xs)(hb:Below w.heap.size w w'):w'.ownsRow base e size v n xs:=by
 refine⟨h.1,h.2.elim Or.inl fun ⟨g,cap,cur,h1,h2,h3,h4⟩=>Or.inr ⟨g,cap,cur,h1,h2,?_,h4⟩⟩;rw[hb.block g (Array.getElem?_eq_some_iff.1 h3).1];exact h3
theorem Zsh:(Tryz.prog.info? 122).map (fun i=>(i.zero,i.size,i.bytes))=some (some (.agg #[.string ⟨#[]⟩,.int .i64 0]),2,24):=by kernel_rfl
theorem Zkg (w:World)(t:Tk)(e:TypeId):RowIn (w.alloc (.cells #[.string t.1,.int .i64 t.2] e)) (w.heap.size+1) 2 (some ⟨w.heap.size,0,none⟩) 1 (tkC t):=by
 refine⟨rfl,Or.inr ⟨w.heap.size,0,rfl,by omega,fun j u hu=>?_⟩⟩;rw[(Blk.new w e _).cell];rw[<-hu,Nat.zero_add];simp[tkC]
def delim:ByteArray:=⟨#[32,40,41]⟩
theorem Zew (b:UInt8):delim.data.toList.contains b=isD b:=by
 simp only[delim,isD,List.contains_cons,List.contains_nil,Bool.or_false];rw[Bool.or_assoc]
theorem Zi6:∀(j:Nat) b,delim.data.toList[j]? = some b->b.toNat<128:=fun j b h=>by
 have:=List.mem_of_getElem? h;simp only[delim,List.mem_cons,List.not_mem_nil,or_false]at this;rcases this with rfl|rfl|rfl <;> decide
theorem Zc5 {s:ByteArray}{k:Nat}(h:k<s.size):byteAt s k=s[k]'h:=by
 unfold byteAt;rw[List.getD_eq_getElem?_getD,List.getElem?_eq_getElem (by simpa using h)]
 rfl
theorem Zlg (s:ByteArray)(w:World)(hs:s.size<=1000000) :
  Calls Tryz.prog 17 #[.string s] w fun e w'=>∃A c,e = .returned (.slice A (toks s).length c)/\w'.ownsRow w.heap.size 122 2 (.slice A (toks s).length c) (toks s).length ((toks s).flatMap tkC)/\Below w.heap.size w w':=by
 obtain⟨i0,hi0,hz0,hz1,hz2⟩:=info_parts Zsh;go_enter Tryz.func17,Tryz.ntmps17;go_wp2_with fail;go_loopw [3,4] (fun v i wr=>∃(k m c5:Nat) (A5:Option Addr) (ts:List Tk),k<=s.size/\i = .int .i64 k/\v = .slice A5 m c5/\Hid (ts.length=m)/\m<=k/\Hid (wr.ownsRow w.heap.size 122 2 (.slice A5 m c5) m (ts.flatMap tkC))/\Hid (toks s=ts++tokR s k k)/\Hid (Below w.heap.size w wr)) (fun _ i _=>s.size - (intOf i).toNat)
 case atStart=>exact⟨0,0,0,none,[],Nat.zero_le _,rfl,rfl,zh rfl,zr _,zh ⟨by simp,Or.inl ⟨rfl,rfl⟩⟩,zh rfl,zh (Below.refl _ _)⟩
 case round=>
  obtain⟨k,m,c5,A5,ts,hk,rfl,rfl,hm,hmk,hrow,htk,hbw⟩:=hrel;have hwz:=hbw.o.size;have hk8:(0:Int)<=(k:Int):=by omega
  by_cases hlt:k<s.size
  ·have hk9:(k:Int)<(s.size:Int):=by omega
   have hk7:(k:Int)+1<=(s.size:Int):=by omega
   have HB:=zh (Zc5 hlt);by_cases h32:(s[k]'hlt)=32
   ·have q1:((s[k]'hlt).toNat:Int)=32:=by rw[h32];rfl
    have HNX:Hid (toks s=ts++tokR s (k+1) (k+1)):=zh (by
     rw[htk.o,Zkd hlt (by rw[HB.o,h32];rfl),Zcb];unfold signT;rw[if_pos (by rw[HB.o,h32])]
     rfl)
    clear h32;go_wp2_with fail;go_roundw
    case rel=>exact⟨k+1,m,c5,A5,ts,by omega,by go_num,rfl,hm,by omega,hrow,HNX,hbw⟩
    case measure=>simp[intOf];omega
   ·have hn32:(((s[k]'hlt).toNat:Int) == 32)=false:=by
     rw[beq_eq_false_iff_ne];intro e;exact h32 (by apply UInt8.toNat_inj.1;show (s[k]'hlt).toNat=32;omega)
    have hn32':¬((s[k]'hlt).toNat:Int)=32:=by
     intro e;exact h32 (by apply UInt8.toNat_inj.1;show (s[k]'hlt).toNat=32;omega)
    have hkw:IntKind.i64.wrap ((k:Int)+1)=(k:Int)+1:=by rw[IntKind.wrap_i64];omega
    have hkt:((k:Int)+1).toNat=k+1:=by omega
    have hkk:(k:Int)<=(k:Int)+1:=by omega
    by_cases hbr:(s[k]'hlt)=40\/(s[k]'hlt)=41
    ·have HNX:Hid (toks s=(ts++[(s.extract k (k+1),k)])++tokR s (k+1) (k+1)):=zh (by
      rw[htk.o,Zkd hlt (by rw[HB.o];unfold isD;rcases hbr with h|h <;> rw[h] <;> rfl),Zcb];unfold signT;rw[if_neg (by rw[HB.o];exact h32)];simp)
     have HONE:Hid (∀u∈tkC (s.extract k (k+1),k),u.oneCell'=true):=zh (fun u hu=>by simp[tkC]at hu;rcases hu with rfl|rfl <;> rfl);by_cases h40:(s[k]'hlt)=40
     ·have q1:((s[k]'hlt).toNat:Int)=40:=by rw[h40];rfl
      clear hbr h32 h40
      go_wp2_with (first
       | (at_builtin;refine Zaa _ rfl _ _ 77 rfl w.heap.size 122 i0 _ 2 24 Tryz.underlying77 hi0 hz0 hz1 hz2 rfl (by omega) (.slice A5 m c5) m _ rfl (hrow.o.alloc _) (wr.heap.size+1) (some ⟨wr.heap.size,0,none⟩) 1 1 (tkC (s.extract k (k+1),k)) rfl (Zkg wr (s.extract k (k+1),k) _) (fun h=>by cases h) HONE.o (by unfold maxLen;omega) (by omega) (by simp;omega) ?_;intro v7 w7 ho7 hg7 hv7))
      obtain⟨A7,c7,hr7⟩:=own_shape ho7;subst hr7;go_wp2_with fail;go_roundw
      case rel=>exact⟨k+1,m+1,c7,A7,ts++[(s.extract k (k+1),k)],by omega,by go_num,rfl,zh (by rw[List.length_append,hm.o];rfl),by omega,zh (by rw[List.flatMap_append,List.flatMap_singleton];exact ho7),HNX,zh ((hbw.o.alloc hwz _).grown hg7 (by simp;omega) (fun j hj=>(hrow.o.lt _ hj).1))⟩
      case measure=>simp[intOf];omega
     ·have q1:((s[k]'hlt).toNat:Int)=41:=by rw[hbr.resolve_left h40];rfl
      clear hbr h32 h40
      go_wp2_with (first
       | (at_builtin;refine Zaa _ rfl _ _ 77 rfl w.heap.size 122 i0 _ 2 24 Tryz.underlying77 hi0 hz0 hz1 hz2 rfl (by omega) (.slice A5 m c5) m _ rfl (hrow.o.alloc _) (wr.heap.size+1) (some ⟨wr.heap.size,0,none⟩) 1 1 (tkC (s.extract k (k+1),k)) rfl (Zkg wr (s.extract k (k+1),k) _) (fun h=>by cases h) HONE.o (by unfold maxLen;omega) (by omega) (by simp;omega) ?_;intro v7 w7 ho7 hg7 hv7))
      obtain⟨A7,c7,hr7⟩:=own_shape ho7;subst hr7;go_wp2_with fail;go_roundw
      case rel=>exact⟨k+1,m+1,c7,A7,ts++[(s.extract k (k+1),k)],by omega,by go_num,rfl,zh (by rw[List.length_append,hm.o];rfl),by omega,zh (by rw[List.flatMap_append,List.flatMap_singleton];exact ho7),HNX,zh ((hbw.o.alloc hwz _).grown hg7 (by simp;omega) (fun j hj=>(hrow.o.lt _ hj).1))⟩
      case measure=>simp[intOf];omega
    ·have h40:¬(s[k]'hlt)=40:=fun h=>hbr (Or.inl h);have h41:¬(s[k]'hlt)=41:=fun h=>hbr (Or.inr h);have hn40:¬((s[k]'hlt).toNat:Int)=40:=by
      intro e;exact h40 (by apply UInt8.toNat_inj.1;show (s[k]'hlt).toNat=40;omega)
     have hn41:¬((s[k]'hlt).toNat:Int)=41:=by
      intro e;exact h41 (by apply UInt8.toNat_inj.1;show (s[k]'hlt).toNat=41;omega)
     have HND:Hid (isD (s[k]'hlt)=false):=zh (by
      unfold isD;rw[beq_eq_false_iff_ne.2 h32,beq_eq_false_iff_ne.2 h40,beq_eq_false_iff_ne.2 h41]
      rfl)
     have hez:(s.extract k s.size).size<=1000000:=by rw[ByteArray.size_extract];omega
     have HIA:=zh (Zf0 (s.extract k s.size) ⟨#[32,40,41]⟩ wr (by decide) (by decide) hez Zi6);have hex:∀j,(s.extract k s.size).data.toList[j]? = s.data.toList[k+j]?:=fun j=>Zm3 j;rcases Zb5 (⟨#[32,40,41]⟩:ByteArray).data.toList (s.extract k s.size).data.toList with ⟨hq,hall⟩|⟨q,x,hq,hall,hqx,hxc⟩
     ·have HNX:Hid (toks s=(ts++[(s.extract k s.size,k)])++tokR s s.size s.size):=zh (by
       rw[htk.o,Zh1 (i:=k) (j:=s.size) hlt (zr _) (fun r hr1 hr2=>by
        rw[Zc5 hr2,<-Zew];refine hall (r - k) _ ?_;rw[hex,show k+(r - k)=r by omega];exact Lib.data_getElem? s r hr2) (Or.inl rfl)]
       simp)
      have HONE:Hid (∀u∈tkC (s.extract k s.size,k),u.oneCell'=true):=zh (fun u hu=>by simp[tkC]at hu;rcases hu with rfl|rfl <;> rfl);have hsw:IntKind.i64.wrap ((s.size:Int) - (k:Int))=(s.size:Int) - (k:Int):=by rw[IntKind.wrap_i64];omega
      have hsk:(k:Int)+((s.size:Int) - (k:Int))=(s.size:Int):=by omega
      have hss:IntKind.i64.wrap (s.size:Int)=(s.size:Int):=by rw[IntKind.wrap_i64];omega
      rw[hq]at HIA;clear hq hall hex h32 h40 h41 hbr;go_wp2_with fail;refine HIA.o.mono ?_;rintro e w5 ⟨rfl,hb5⟩;have HO5:=zh (Za9 hrow.o hb5);have hz5:w.heap.size<=w5.heap.size:=Nat.le_trans hwz hb5.size;have HBW5:Hid (Below w.heap.size w w5):=zh (hbw.o.trans (hb5.mono hwz));clear hb5
      go_wp2_with (first
       | (at_builtin;refine Zaa _ rfl _ _ 77 rfl w.heap.size 122 i0 _ 2 24 Tryz.underlying77 hi0 hz0 hz1 hz2 rfl (by omega) (.slice A5 m c5) m _ rfl (HO5.o.alloc _) (w5.heap.size+1) (some ⟨w5.heap.size,0,none⟩) 1 1 (tkC (s.extract k (s.size),k)) rfl (Zkg w5 (s.extract k (s.size),k) _) (fun h=>by cases h) HONE.o (by unfold maxLen;omega) (by omega) (by simp;omega) ?_;intro v7 w7 ho7 hg7 hv7))
      obtain⟨A7,c7,hr7⟩:=own_shape ho7;subst hr7;go_wp2_with fail;go_roundw
      case rel=>exact⟨s.size,m+1,c7,A7,ts++[(s.extract k (s.size),k)],by omega,by go_num,rfl,zh (by rw[List.length_append,hm.o];rfl),by omega,zh (by rw[List.flatMap_append,List.flatMap_singleton];exact ho7),HNX,zh ((HBW5.o.alloc hz5 _).grown hg7 (by simp;omega) (fun j hj=>(HO5.o.lt _ hj).1))⟩
      case measure=>simp[intOf];omega
     ·have hkl:k+q<s.size:=by
       have:=(List.getElem?_eq_some_iff.1 hqx).1;simp at this;omega
      have hq1:1<=q:=by
       rcases Nat.eq_zero_or_pos q with h0|h0
       ·subst h0;rw[hex,Nat.add_zero,Lib.data_getElem? s k hlt]at hqx;injection hqx with hqx;rw[<-hqx]at hxc;have h1:isD (s[k]'hlt)=true:=(Zew _).symm.trans hxc;rw[HND.o]at h1;cases h1
       ·exact h0
      have HNX:Hid (toks s=(ts++[(s.extract k (k+q),k)])++tokR s (k+q) (k+q)):=zh (by
       rw[htk.o,Zh1 (i:=k) (j:=k+q) (by omega) (by omega) (fun r hr1 hr2=>by
        rw[Zc5 (by omega),<-Zew];refine hall (r - k) _ (by omega) ?_;rw[hex,show k+(r - k)=r by omega]
        exact Lib.data_getElem? s r (by omega)) (Or.inr (by
         rw[Zc5 hkl,<-Zew];rw[hex,Lib.data_getElem? s (k+q) hkl]at hqx;injection hqx with hqx;rw[hqx];exact hxc))]
       simp)
      have HONE:Hid (∀u∈tkC (s.extract k (k+q),k),u.oneCell'=true):=zh (fun u hu=>by simp[tkC]at hu;rcases hu with rfl|rfl <;> rfl);have hqw:IntKind.i64.wrap ((k:Int)+(q:Int))=(k:Int)+(q:Int):=by rw[IntKind.wrap_i64];omega
      have hqt:((k:Int)+(q:Int)).toNat=k+q:=by omega
      have hqn:¬(q:Int)<0:=by omega
      have hq8:(k:Int)<=(k:Int)+(q:Int):=by omega
      have hq7:(k:Int)+(q:Int)<=(s.size:Int):=by omega
      rw[hq]at HIA;clear hqx hxc;clear hq hall hex h32 h40 h41 hbr;go_wp2_with fail;refine HIA.o.mono ?_;rintro e w5 ⟨rfl,hb5⟩;have HO5:=zh (Za9 hrow.o hb5);have hz5:w.heap.size<=w5.heap.size:=Nat.le_trans hwz hb5.size;have HBW5:Hid (Below w.heap.size w w5):=zh (hbw.o.trans (hb5.mono hwz));clear hb5
      go_wp2_with (first
       | (at_builtin;refine Zaa _ rfl _ _ 77 rfl w.heap.size 122 i0 _ 2 24 Tryz.underlying77 hi0 hz0 hz1 hz2 rfl (by omega) (.slice A5 m c5) m _ rfl (HO5.o.alloc _) (w5.heap.size+1) (some ⟨w5.heap.size,0,none⟩) 1 1 (tkC (s.extract k (k+q),k)) rfl (Zkg w5 (s.extract k (k+q),k) _) (fun h=>by cases h) HONE.o (by unfold maxLen;omega) (by omega) (by simp;omega) ?_;intro v7 w7 ho7 hg7 hv7))
      obtain⟨A7,c7,hr7⟩:=own_shape ho7;subst hr7;go_wp2_with fail;go_roundw
      case rel=>exact⟨k+q,m+1,c7,A7,ts++[(s.extract k (k+q),k)],by omega,by go_num,rfl,zh (by rw[List.length_append,hm.o];rfl),by omega,zh (by rw[List.flatMap_append,List.flatMap_singleton];exact ho7),HNX,zh ((HBW5.o.alloc hz5 _).grown hg7 (by simp;omega) (fun j hj=>(HO5.o.lt _ hj).1))⟩
      case measure=>simp[intOf];omega
  ·obtain rfl:k=s.size:=by omega
   have HPE:Hid (ts=toks s):=zh (by rw[htk.o,Zgu (zr _),Zcb,List.append_nil]);go_wp2_with fail;go_ret;have h1:=hm.o;rw[HPE.o]at h1;have h2:=hrow.o;rw[HPE.o,<-h1]at h2;rw[<-h1];exact⟨A5,c5,rfl,h2,hbw.o⟩
end Go.Proofs.YtnpfaajhgghpgaaGreatDoor.Ru
namespace Go.Proofs.YtnpfaajhgghpgaaGreatDoor.Ru
open Go.RowKit Go.Maps Go.Shelf
def rowT (k:Nat):TypeId:=if k=0 then 171 else 221
theorem Zgy {k j:Nat}(hk:k<2)(hj:j<2)(h:rowT k=rowT j):k=j:=by
 unfold rowT at h;by_cases h1:k=0
 ·by_cases h2:j=0
  ·omega
  ·rw[if_pos h1,if_neg h2]at h;exact absurd h (by decide)
 ·by_cases h2:j=0
  ·rw[if_neg h1,if_pos h2]at h;exact absurd h (by decide)
  ·omega
def leafV:Leaf->Value
 | .follows=>.iface 245 (.agg #[.string followsW])
 | .done=>.iface 245 (.agg #[.string doneW])
 | .tag x=>.iface 247 (.agg #[.string tagW,.string x])
 | .maker x=>.iface 247 (.agg #[.string makerW,.string x])
 | .num k less n=>.iface 249 (.agg #[.string (whatW k),.bool less,.int .i64 n])
structure RowV (w:World) (B:Nat) (A:Option Addr) (m c:Nat) (xs:List Value):Prop where
 row:RowIn w w.heap.size 1 A m xs
 len:xs.length=m
 far:∀g o,A=some ⟨g,o,none⟩->B<=g
 nc:A=none->c=0
 one:∀u∈xs,u.oneCell'=true
theorem RowV.keep {w w':World}{B m c:Nat}{A:Option Addr}{xs:List Value}(h:RowV w B A m c xs)(hs:w.heap.size<=w'.heap.size)(hb:∀i,i<w.heap.size->B<=i->w'.heap[i]? = w.heap[i]?):RowV w' B A m c xs:=by
 refine⟨⟨h.row.1,?_⟩,h.len,h.far,h.nc,h.one⟩;rcases h.row.2 with h0|⟨b,off,e,hbl,hc⟩
 ·exact Or.inl h0
 ·refine Or.inr ⟨b,off,e,by omega,fun j u hu=>?_⟩;exact (World.cell?_of_block (hb b hbl (h.far b off e))).trans (hc j u hu)
theorem RowV.eq {w:World}{B B' m c c':Nat}{A:Option Addr}{xs ys:List Value}(h:RowV w B A m c xs)(k:RowV w B' A m c' ys):xs=ys:=by
 refine List.ext_getElem? (fun j=>?_);by_cases hj:j<m
 ·obtain⟨g,o,rfl,_,hc⟩:=h.row.at (by omega);obtain⟨g',o',e,_,hc'⟩:=k.row.at (by omega);injection e with e;injection e with e1 e2;subst e1 e2;obtain⟨x,hx⟩:∃x,xs[j]? = some x:=⟨_,List.getElem?_eq_getElem (by rw[h.len];exact hj)⟩
  obtain⟨y,hy⟩:∃y,ys[j]? = some y:=⟨_,List.getElem?_eq_getElem (by rw[k.len];exact hj)⟩
  have h1:=hc j x hx;rw[hc' j y hy]at h1;rw[hx,hy];exact h1.symm
 ·rw[List.getElem?_eq_none (by rw[h.len];omega),List.getElem?_eq_none (by rw[k.len];omega)]
inductive NdAt (w:World) (B:Nat):Nd->Value->Prop
 | atom (a:Leaf):NdAt w B (.atom a) (leafV a)
 | no {n:Nd} {v:Value} (h:NdAt w B n v):NdAt w B (.no n) (.iface 220 (.agg #[v]))
 | row {k:Nat} {l:List Nd} {A:Option Addr} {m c:Nat} {xs:List Value} (hr:RowV w B A m c xs) (hl:l.length=m) (h:∀(i:Nat) n v,l[i]? = some n->xs[i]? = some v->NdAt w B n v):NdAt w B (.row k l) (.iface (rowT k) (.agg #[.slice A m c]))
theorem NdAt.keep {w w':World}{B:Nat}{n:Nd}{v:Value}(h:NdAt w B n v)(hs:w.heap.size<=w'.heap.size)(hb:∀i,i<w.heap.size->B<=i->w'.heap[i]? = w.heap[i]?):NdAt w' B n v:=by
 induction h with
 | atom a=>exact .atom a
 | no h ih=>exact .no ih
 | row hr hl h ih=>exact .row (hr.keep hs hb) hl ih
theorem NdAt.under {w w':World}{B:Nat}{n:Nd}{v:Value}(h:NdAt w B n v)(k:Below w.heap.size w w'):NdAt w' B n v:=h.keep k.size (fun i hi _=>k.block i hi)
theorem NdAt.kept {w w':World}{B:Nat}{n:Nd}{v:Value}{S:Nat->Prop}(h:NdAt w B n v)(k:Kept S w w')(hS:∀i,S i->i<B):NdAt w' B n v:=h.keep k.size (fun i hi hB=>k.block i hi (fun hs=>by have:=hS i hs;omega))
def Okv (w:World)(B N:Nat)(v:Value):Prop:=1<=N/\v.oneCell'=true/\(v = .nilIface\/(∃t x,v = .iface t x/\t≠rowT 0/\t≠rowT 1)\/∃k A m c xs,k<2/\v = .iface (rowT k) (.agg #[.slice A m c])/\RowV w B A m c xs/\2<=m/\m<=N)
theorem Okv.keep {w w':World}{B N:Nat}{v:Value}(h:Okv w B N v)(hs:w.heap.size<=w'.heap.size)(hb:∀i,i<w.heap.size->B<=i->w'.heap[i]? = w.heap[i]?):Okv w' B N v:=by
 obtain⟨h0,h1,h2|h2|⟨k,A,m,c,xs,hk,e,hr,hm⟩⟩:=h
 ·exact⟨h0,h1,Or.inl h2⟩
 ·exact⟨h0,h1,Or.inr (Or.inl h2)⟩
 ·exact⟨h0,h1,Or.inr (Or.inr ⟨k,A,m,c,xs,hk,e,hr.keep hs hb,hm⟩)⟩
theorem Okv.mono {w:World}{B N N':Nat}{v:Value}(h:Okv w B N v)(hn:N<=N'):Okv w B N' v:=by
 obtain⟨h0,h1,h2|h2|⟨k,A,m,c,xs,hk,e,hr,hm,hm2⟩⟩:=h
 ·exact⟨by omega,h1,Or.inl h2⟩
 ·exact⟨by omega,h1,Or.inr (Or.inl h2)⟩
 ·exact⟨by omega,h1,Or.inr (Or.inr ⟨k,A,m,c,xs,hk,e,hr,hm,by omega⟩)⟩
theorem Okv.nil (w:World)(B:Nat):Okv w B 1 .nilIface:=⟨zr _,rfl,Or.inl rfl⟩
theorem Okv.leaf (w:World)(B:Nat)(a:Leaf):Okv w B 1 (leafV a):=by
 refine⟨zr _,by cases a <;> rfl,Or.inr (Or.inl ?_)⟩;cases a <;> exact⟨_,_,rfl,by decide,by decide⟩
theorem Okv.no {w:World}{B:Nat}(v:Value):Okv w B 1 (.iface 220 (.agg #[v])):=⟨zr _,rfl,Or.inr (Or.inl ⟨_,_,rfl,by decide,by decide⟩)⟩
inductive PartsOk (w:World) (B:Nat):List Value->Nat->Prop
 | nil:PartsOk w B [] 0
 | snoc {vs:List Value} {M N:Nat} {v:Value} (h:PartsOk w B vs M) (hv:Okv w B N v):PartsOk w B (vs++[v]) (M+N)
inductive Flat (w:World) (B k:Nat):List Value->List Value->Prop
 | nil:Flat w B k [] []
 | row {vs us xs:List Value} {A:Option Addr} {m c:Nat} (h:Flat w B k vs us) (hr:RowV w B A m c xs):Flat w B k (vs++[.iface (rowT k) (.agg #[.slice A m c])]) (us++xs)
 | one {vs us:List Value} {v:Value} (h:Flat w B k vs us) (hv:∀x,v≠.iface (rowT k) x):Flat w B k (vs++[v]) (us++[v])
theorem Zex {α:Type}{a b:List α}{x y:α}(h:a++[x]=b++[y]):a=b/\x=y:=by
 have:=List.append_inj' h rfl;exact⟨this.1,by simpa using this.2⟩
theorem Flat.few {w:World}{B k:Nat}{vs us:List Value}(h:Flat w B k vs us)(hk:k<2):∀{M},PartsOk w B vs M->us.length<=M/\vs.length<=us.length/\vs.length<=M:=by
 induction h with
 | nil=>
  intro M hp;simp
 | @row vs us xs A m c h hr ih=>
  intro M hp;generalize hg:vs++[Value.iface (rowT k) (.agg #[.slice A m c])]=gs at hp;cases hp with
  | nil=>simp at hg
  | @snoc vs' M' N v h' hv=>
   obtain⟨rfl,rfl⟩:=Zex hg;obtain⟨i1,i2,i3⟩:=ih h';obtain⟨h0,_,h2|⟨t,x,e,h3,h4⟩|⟨k',A',m',c',xs',hk',e,hr',hm,hm2⟩⟩:=hv
   ·cases h2
   ·injection e with e1 e2;rcases (show k=0\/k=1 by omega) with rfl|rfl
    ·exact absurd e1.symm h3
    ·exact absurd e1.symm h4
   ·injection e with e1 e2;have e3:(#[Value.slice A m c]:Array Value)=#[.slice A' m' c']:=by injection e2
    have e4:Value.slice A m c = .slice A' m' c':=by simpa using e3
    injection e4 with e5 e6 e7;subst e6;simp only[List.length_append,List.length_singleton,hr.len];omega
 | @one vs us v h hv' ih=>
  intro M hp;generalize hg:vs++[v]=gs at hp;cases hp with
  | nil=>simp at hg
  | @snoc vs' M' N v' h' hv=>
   obtain⟨rfl,rfl⟩:=Zex hg;obtain⟨i1,i2,i3⟩:=ih h';have:=hv.1;simp only[List.length_append,List.length_singleton];omega
theorem Flat.nodes {w:World}{B k:Nat}{vs us:List Value}(h:Flat w B k vs us)(hk:k<2):∀{ns:List Nd},ns.length=vs.length->(∀n∈ns,NF n)->(∀(i:Nat) n v,ns[i]? = some n->vs[i]? = some v->NdAt w B n v)->(ns.flatMap (parts' k)).length=us.length/\∀(i:Nat) n v,(ns.flatMap (parts' k))[i]? = some n->us[i]? = some v->NdAt w B n v:=by
 have split:∀{ns:List Nd} {vs:List Value} {v:Value},ns.length=(vs++[v]).length->∃ns' n,ns=ns'++[n]/\ns'.length=vs.length:=fun {ns vs v} hl=>by
  have hne:ns≠[]:=by rintro rfl;simp at hl
  exact⟨ns.dropLast,ns.getLast hne,(List.dropLast_concat_getLast hne).symm,by simp at hl;simp;omega⟩
 have glue:∀{xs:List Nd} {ys:List Value} {xs':List Nd} {ys':List Value},xs.length=ys.length->(∀(i:Nat) n v,xs[i]? = some n->ys[i]? = some v->NdAt w B n v)->(∀(i:Nat) n v,xs'[i]? = some n->ys'[i]? = some v->NdAt w B n v)->∀(i:Nat) n v,(xs++xs')[i]? = some n->(ys++ys')[i]? = some v->NdAt w B n v:=fun {xs ys xs' ys'} hl h1 h2 i n v hn hv=>by
  by_cases hi:i<xs.length
  ·rw[List.getElem?_append_left hi]at hn;rw[List.getElem?_append_left (by omega)]at hv;exact h1 i n v hn hv
  ·rw[List.getElem?_append_right (by omega)]at hn;rw[List.getElem?_append_right (by omega),<-hl]at hv;exact h2 _ n v hn hv
 induction h with
 | nil=>
  intro ns hl _ _;obtain rfl:=List.length_eq_zero_iff.1 hl;simp
 | @row vs us xs A m c h hr ih=>
  intro ns hl hnf hat;obtain⟨ns',n,rfl,hl'⟩:=split hl;obtain⟨j1,j2⟩:=ih hl' (fun x hx=>hnf x (by simp[hx])) (fun i x v hx hv=>hat i x v (by rw[List.getElem?_append_left (List.getElem?_eq_some_iff.1 hx).1];exact hx) (by rw[List.getElem?_append_left (List.getElem?_eq_some_iff.1 hv).1];exact hv));have hn:=hat ns'.length n (.iface (rowT k) (.agg #[.slice A m c])) (by simp) (by rw[hl'];simp);generalize hg:Value.iface (rowT k) (.agg #[.slice A m c])=gv at hn;cases hn with
  | atom a=>cases a <;> (simp only[leafV]at hg;injection hg with e1 _;unfold rowT at e1;split at e1 <;> exact absurd e1 (by decide))
  | no h=>injection hg with e1 _;unfold rowT at e1;split at e1 <;> exact absurd e1 (by decide)
  | @row k' l A' m' c' xs' hr' hl2 h2=>
   injection hg with e1 e2;have hnf2:=hnf (.row k' l) (by simp);have hk':k'<2:=by cases hnf2;assumption
   obtain rfl:=Zgy hk hk' e1;have e3:(#[Value.slice A m c]:Array Value)=#[.slice A' m' c']:=by injection e2
   have e4:Value.slice A m c = .slice A' m' c':=by simpa using e3
   injection e4 with e5 e6 e7;subst e5 e6 e7;obtain rfl:=hr.eq hr';rw[List.flatMap_append,List.flatMap_singleton];have hp:parts' k (.row k l)=l:=if_pos rfl;rw[hp];refine⟨by rw[List.length_append,List.length_append,j1,hl2,hr.len],glue j1 j2 h2⟩
 | @one vs us v h hv ih=>
  intro ns hl hnf hat;obtain⟨ns',n,rfl,hl'⟩:=split hl;obtain⟨j1,j2⟩:=ih hl' (fun x hx=>hnf x (by simp[hx])) (fun i x v hx hv=>hat i x v (by rw[List.getElem?_append_left (List.getElem?_eq_some_iff.1 hx).1];exact hx) (by rw[List.getElem?_append_left (List.getElem?_eq_some_iff.1 hv).1];exact hv));have hn:=hat ns'.length n v (by simp) (by rw[hl'];simp);have hp:parts' k n = [n]:=by
   cases hn with
   | atom a=>rfl
   | no h=>rfl
   | @row k' l A' m' c' xs' hr' hl2 h2=>
    by_cases e:k'=k
    ·subst e;exact absurd rfl (hv _)
    ·exact if_neg e
  rw[List.flatMap_append,List.flatMap_singleton,hp];refine⟨by rw[List.length_append,List.length_append,j1];rfl,glue j1 j2 (fun i x y hx hy=>?_)⟩;cases i with
  | zero=>simp at hx hy;subst hx hy;exact hn
  | succ i=>simp at hx
end Go.Proofs.YtnpfaajhgghpgaaGreatDoor.Ru
