/- A part of the joined base. -/
import Derived.Test.YtnpfaajhgghpgaaGreatDoorU20
set_option linter.unusedVariables false
set_option maxHeartbeats 8000000
set_option maxRecDepth 100000
namespace Go.Proofs.YtnpfaajhgghpgaaGreatDoor.Ru
open Go.RowKit Go.Maps Go.Shelf
def InvAt (z:Fz)(b:Bool)(v:Value)(w:World):Prop:=∃x,(v = .iface 171 x/\Calls Tryz.prog 215 #[x,.agg (fzA z)] w (ROf b w))\/(v = .iface 221 x/\Calls Tryz.prog 221 #[x,.agg (fzA z)] w (ROf b w))\/(v = .iface 220 x/\Calls Tryz.prog 220 #[x,.agg (fzA z)] w (ROf b w))\/(v = .iface 247 x/\Calls Tryz.prog 224 #[x,.agg (fzA z)] w (ROf b w))\/(v = .iface 249 x/\Calls Tryz.prog 225 #[x,.agg (fzA z)] w (ROf b w))\/(v = .iface 245 x/\Calls Tryz.prog 223 #[x,.agg (fzA z)] w (ROf b w))
theorem Zh8 (f:Fx):∀l:List Nd,someN f l=(l.map (holdsN f)).any id
 | []=>rfl
 | n::l=>by rw[someN,List.map_cons,List.any_cons,Zh8 f l];rfl
theorem Zfd (f:Fx):∀l:List Nd,someNot f l=(l.map (fun n=>!holdsN f n)).any id
 | []=>rfl
 | n::l=>by rw[someNot,List.map_cons,List.any_cons,Zfd f l];rfl
theorem Zh9 {w:World}{p:Nat}{z:Fz}(h:Blk w p FAC (fzA z)):w.cell? ⟨p,0,none⟩=some (.string z.name)/\w.cell? ⟨p,1,none⟩=some (.string z.maker)/\w.cell? ⟨p,2,none⟩=some (.string z.tags)/\w.cell? ⟨p,3,none⟩=some (.int .i64 z.stock)/\w.cell? ⟨p,4,none⟩=some (.int .i64 z.price)/\w.cell? ⟨p,5,none⟩=some (.int .i64 z.born)/\w.cell? ⟨p,6,none⟩=some (.bool z.listed)/\w.cell? ⟨p,7,none⟩=some (.int .i64 z.now)/\w.cell? ⟨p,8,none⟩=some (.int .i64 z.age)/\w.cell? ⟨p,9,none⟩=some (.int .i64 z.fans)/\w.cell? ⟨p,10,none⟩=some (.bool z.follows)/\w.cell? ⟨p,11,none⟩=some (.bool z.done):=
 ⟨h.cell 0,h.cell 1,h.cell 2,h.cell 3,h.cell 4,h.cell 5,h.cell 6,h.cell 7,h.cell 8,h.cell 9,h.cell 10,h.cell 11⟩
theorem Zlk (z:Fz)(b:Bool)(v:Value)(p:Nat)(w:World)(h:InvAt z b v w)(hb:Blk w p FAC (fzA z)):Calls Tryz.prog 217 #[v,.pointer (some ⟨p,0,none⟩)] w (ROf b w):=by
 obtain⟨c0,c1,c2,c3,c4,c5,c6,c7,c8,c9,c10,c11⟩:=Zh9 hb;clear hb;obtain⟨x,⟨rfl,hc⟩|⟨rfl,hc⟩|⟨rfl,hc⟩|⟨rfl,hc⟩|⟨rfl,hc⟩|⟨rfl,hc⟩⟩:=h
 all_goals
  have HC:=zh hc;clear hc;unfold fzA at HC;go_enter Tryz.func217,Tryz.ntmps217;go_wp2_with fail;refine HC.o.mono ?_;rintro e w1 ⟨rfl,hb⟩;clear HC c0 c1 c2 c3 c4 c5 c6 c7 c8 c9 c10 c11;go_wp2_with fail;go_ret;exact⟨rfl,hb⟩
theorem Zll (z:Fz)(bs:List Bool)(B:Nat)(A:Option Addr)(m c:Nat)(xs:List Value)(p:Nat)(w:World)(hr:RowV w B A m c xs)(hbl:bs.length=m)(hm:m<=1000000)(hp:Blk w p FAC (fzA z))(h:∀(i:Nat) v b,xs[i]? = some v->bs[i]? = some b->∀W,Below w.heap.size w W->Calls Tryz.prog 217 #[v,.pointer (some ⟨p,0,none⟩)] W (ROf b W)):Calls Tryz.prog 218 #[.slice A m c,.func (.func 217) #[] #[.pointer (some ⟨p,0,none⟩)]] w fun e w'=>∃r:Int,e = .returned (.int .i64 r)/\decide (0<=r)=bs.any id/\Below w.heap.size w w':=by
 have HR:=zh hr;have HBL:=zh hbl;have H:=zh h;clear hr hbl hp h;go_enter Tryz.func218,Tryz.ntmps218;go_wp2_with fail;go_loopw [8] (fun i wr=>∃k:Nat,k<=m/\i = .int .i64 k/\Hid (∀(j:Nat) b,j<k->bs[j]? = some b->b=false)/\Hid (Below w.heap.size w wr)) (fun i _=>m - (intOf i).toNat)
 case atStart=>exact⟨0,Nat.zero_le _,rfl,zh (fun j b hj=>by omega),zh (Below.refl _ _)⟩
 case round=>
  obtain⟨k,hk,rfl,hno,hbw⟩:=hrel;by_cases hlt:k<m
  ·have hk8:(k:Int)<(m:Int):=by omega
   have hk9:(0:Int)<=(k:Int):=by omega
   obtain⟨v,hv⟩:∃v,xs[k]? = some v:=⟨_,List.getElem?_eq_getElem (by rw[HR.o.len];exact hlt)⟩
   obtain⟨b,hb⟩:∃b,bs[k]? = some b:=⟨_,List.getElem?_eq_getElem (by rw[HBL.o];exact hlt)⟩
   have hrr:RowV wr B A m c xs:=HR.o.keep hbw.o.size (fun i hi _=>hbw.o.block i hi);obtain⟨g,o,hA,hg,hc⟩:=hrr.row.at (by omega);have e0:wr.cell? ⟨g,o+k,none⟩=some v:=hc k _ hv;subst hA;have HC:=zh (H.o k v b hv hb wr hbw.o);have HB:=zh hb;clear hrr hg hc hv hb;cases b
   ·have HNX:Hid (∀(j:Nat) b,j<k+1->bs[j]? = some b->b=false):=zh (fun j b hj hb=>by
     by_cases e:j=k
     ·subst e;rw[HB.o]at hb;injection hb with hb;exact hb.symm
     ·exact hno.o j b (by omega) hb)
    go_wp2_with fail;refine HC.o.mono ?_;rintro e w1 ⟨rfl,hb1⟩;have HB1:=zT hbw hb1;clear hb1;go_wp2_with fail;go_roundw
    case rel=>exact⟨k+1,by omega,by go_num,HNX,HB1⟩
    case measure=>simp[intOf];omega
   ·have HY:Hid (bs.any id=true):=zh (List.any_eq_true.2 ⟨true,List.mem_of_getElem? HB.o,rfl⟩);go_wp2_with fail;refine HC.o.mono ?_;rintro e w1 ⟨rfl,hb1⟩;have HB1:=zT hbw hb1;clear hb1;go_wp2_with fail;go_ret;exact⟨(k:Int),rfl,by rw[HY.o];exact decide_eq_true hk9,HB1.o⟩
  ·have HF:Hid (bs.any id=false):=zh (by
    rw[List.any_eq_false];intro b hb;obtain⟨j,hj⟩:=List.mem_iff_getElem?.1 hb;have h1:=(List.getElem?_eq_some_iff.1 hj).1;rw[HBL.o]at h1;have:=hno.o j b (by omega) hj;subst this;simp)
   go_wp2_with fail;go_ret;exact⟨-1,rfl,by rw[HF.o];rfl,hbw.o⟩
theorem Zlm (z:Fz)(bs:List Bool)(B:Nat)(A:Option Addr)(m c:Nat)(xs:List Value)(p:Nat)(w:World)(hr:RowV w B A m c xs)(hbl:bs.length=m)(hm:m<=1000000)(hp:Blk w p FAC (fzA z))(h:∀(i:Nat) v b,xs[i]? = some v->bs[i]? = some b->∀W,Below w.heap.size w W->Calls Tryz.prog 217 #[v,.pointer (some ⟨p,0,none⟩)] W (ROf b W)):Calls Tryz.prog 216 #[.slice A m c,.func (.func 217) #[] #[.pointer (some ⟨p,0,none⟩)]] w (ROf (bs.any id) w):=by
 have HI:=zh (Zll z bs B A m c xs p w hr hbl hm hp h);obtain⟨y,hy⟩:=zG (bs.any id);rw[hy]at HI ⊢;clear hr hbl hp h hy;go_enter Tryz.func216,Tryz.ntmps216;go_wp2_with fail;refine HI.o.mono ?_;rintro e w1 ⟨r,rfl,hd,hb⟩;have HD:=zh hd;have HB:=zh hb;clear hd hb HI;go_wp2_with fail;go_ret;exact⟨Zab (by rw[<-HD.o]),HB.o⟩
theorem Zpy (z:Fz)(b:Bool)(v:Value)(p:Nat)(w:World)(h:InvAt z b v w)(hb:Blk w p FAC (fzA z)):Calls Tryz.prog 222 #[v,.pointer (some ⟨p,0,none⟩)] w (ROf (!b) w):=by
 obtain⟨c0,c1,c2,c3,c4,c5,c6,c7,c8,c9,c10,c11⟩:=Zh9 hb;clear hb;obtain⟨x,⟨rfl,hc⟩|⟨rfl,hc⟩|⟨rfl,hc⟩|⟨rfl,hc⟩|⟨rfl,hc⟩|⟨rfl,hc⟩⟩:=h
 all_goals
  have HC:=zh hc;clear hc;unfold fzA at HC;go_enter Tryz.func222,Tryz.ntmps222;go_wp2_with fail;refine HC.o.mono ?_;rintro e w1 ⟨rfl,hb⟩;clear HC c0 c1 c2 c3 c4 c5 c6 c7 c8 c9 c10 c11;go_wp2_with fail;go_ret;exact⟨rfl,hb⟩
theorem Zpz (z:Fz)(bs:List Bool)(B:Nat)(A:Option Addr)(m c:Nat)(xs:List Value)(p:Nat)(w:World)(hr:RowV w B A m c xs)(hbl:bs.length=m)(hm:m<=1000000)(hp:Blk w p FAC (fzA z))(h:∀(i:Nat) v b,xs[i]? = some v->bs[i]? = some b->∀W,Below w.heap.size w W->Calls Tryz.prog 222 #[v,.pointer (some ⟨p,0,none⟩)] W (ROf b W)):Calls Tryz.prog 218 #[.slice A m c,.func (.func 222) #[] #[.pointer (some ⟨p,0,none⟩)]] w fun e w'=>∃r:Int,e = .returned (.int .i64 r)/\decide (0<=r)=bs.any id/\Below w.heap.size w w':=by
 have HR:=zh hr;have HBL:=zh hbl;have H:=zh h;clear hr hbl hp h;go_enter Tryz.func218,Tryz.ntmps218;go_wp2_with fail;go_loopw [8] (fun i wr=>∃k:Nat,k<=m/\i = .int .i64 k/\Hid (∀(j:Nat) b,j<k->bs[j]? = some b->b=false)/\Hid (Below w.heap.size w wr)) (fun i _=>m - (intOf i).toNat)
 case atStart=>exact⟨0,Nat.zero_le _,rfl,zh (fun j b hj=>by omega),zh (Below.refl _ _)⟩
 case round=>
  obtain⟨k,hk,rfl,hno,hbw⟩:=hrel;by_cases hlt:k<m
  ·have hk8:(k:Int)<(m:Int):=by omega
   have hk9:(0:Int)<=(k:Int):=by omega
   obtain⟨v,hv⟩:∃v,xs[k]? = some v:=⟨_,List.getElem?_eq_getElem (by rw[HR.o.len];exact hlt)⟩
   obtain⟨b,hb⟩:∃b,bs[k]? = some b:=⟨_,List.getElem?_eq_getElem (by rw[HBL.o];exact hlt)⟩
   have hrr:RowV wr B A m c xs:=HR.o.keep hbw.o.size (fun i hi _=>hbw.o.block i hi);obtain⟨g,o,hA,hg,hc⟩:=hrr.row.at (by omega);have e0:wr.cell? ⟨g,o+k,none⟩=some v:=hc k _ hv;subst hA;have HC:=zh (H.o k v b hv hb wr hbw.o);have HB:=zh hb;clear hrr hg hc hv hb;cases b
   ·have HNX:Hid (∀(j:Nat) b,j<k+1->bs[j]? = some b->b=false):=zh (fun j b hj hb=>by
     by_cases e:j=k
     ·subst e;rw[HB.o]at hb;injection hb with hb;exact hb.symm
     ·exact hno.o j b (by omega) hb)
    go_wp2_with fail;refine HC.o.mono ?_;rintro e w1 ⟨rfl,hb1⟩;have HB1:=zT hbw hb1;clear hb1;go_wp2_with fail;go_roundw
    case rel=>exact⟨k+1,by omega,by go_num,HNX,HB1⟩
    case measure=>simp[intOf];omega
   ·have HY:Hid (bs.any id=true):=zh (List.any_eq_true.2 ⟨true,List.mem_of_getElem? HB.o,rfl⟩);go_wp2_with fail;refine HC.o.mono ?_;rintro e w1 ⟨rfl,hb1⟩;have HB1:=zT hbw hb1;clear hb1;go_wp2_with fail;go_ret;exact⟨(k:Int),rfl,by rw[HY.o];exact decide_eq_true hk9,HB1.o⟩
  ·have HF:Hid (bs.any id=false):=zh (by
    rw[List.any_eq_false];intro b hb;obtain⟨j,hj⟩:=List.mem_iff_getElem?.1 hb;have h1:=(List.getElem?_eq_some_iff.1 hj).1;rw[HBL.o]at h1;have:=hno.o j b (by omega) hj;subst this;simp)
   go_wp2_with fail;go_ret;exact⟨-1,rfl,by rw[HF.o];rfl,hbw.o⟩
theorem Zp0 (z:Fz)(bs:List Bool)(B:Nat)(A:Option Addr)(m c:Nat)(xs:List Value)(p:Nat)(w:World)(hr:RowV w B A m c xs)(hbl:bs.length=m)(hm:m<=1000000)(hp:Blk w p FAC (fzA z))(h:∀(i:Nat) v b,xs[i]? = some v->bs[i]? = some b->∀W,Below w.heap.size w W->Calls Tryz.prog 222 #[v,.pointer (some ⟨p,0,none⟩)] W (ROf b W)):Calls Tryz.prog 216 #[.slice A m c,.func (.func 222) #[] #[.pointer (some ⟨p,0,none⟩)]] w (ROf (bs.any id) w):=by
 have HI:=zh (Zpz z bs B A m c xs p w hr hbl hm hp h);obtain⟨y,hy⟩:=zG (bs.any id);rw[hy]at HI ⊢;clear hr hbl hp h hy;go_enter Tryz.func216,Tryz.ntmps216;go_wp2_with fail;refine HI.o.mono ?_;rintro e w1 ⟨r,rfl,hd,hb⟩;have HD:=zh hd;have HB:=zh hb;clear hd hb HI;go_wp2_with fail;go_ret;exact⟨Zab (by rw[<-HD.o]),HB.o⟩
theorem Zln (z:Fz)(l:List Nd)(B:Nat)(A:Option Addr)(m c:Nat)(xs:List Value)(w:World)(hr:RowV w B A m c xs)(hlm:l.length=m)(hm:m<=1000000)(h:∀(i:Nat) n v,l[i]? = some n->xs[i]? = some v->∀W,Below w.heap.size w W->InvAt z (holdsN (fzX z) n) v W):Calls Tryz.prog 215 #[.agg #[.slice A m c],.agg (fzA z)] w (ROf (holdsN (fzX z) (.row 0 l)) w):=by
 have HH:Hid (holdsN (fzX z) (.row 0 l)=((l.map (holdsN (fzX z))).any id)):=zh (by
  rw[holdsN];rw[if_pos rfl,Zh8])
 rw[HH.o];show Calls Tryz.prog 215 #[.agg #[.slice A m c],.agg #[.string z.name,.string z.maker,.string z.tags,.int .i64 z.stock,.int .i64 z.price,.int .i64 z.born,.bool z.listed,.int .i64 z.now,.int .i64 z.age,.int .i64 z.fans,.bool z.follows,.bool z.done]] w _;obtain⟨w1,hw1⟩:=zG (w.alloc (.cells #[.slice A m c] 171));obtain⟨w2,hw2⟩:=zG (w1.alloc (.cells #[.string z.name,.string z.maker,.string z.tags,.int .i64 z.stock,.int .i64 z.price,.int .i64 z.born,.bool z.listed,.int .i64 z.now,.int .i64 z.age,.int .i64 z.fans,.bool z.follows,.bool z.done] FAC));have z1:w1.heap.size=w.heap.size+1:=by rw[<-hw1];simp
 have k1:Below w.heap.size w w1:=by rw[<-hw1];exact (Below.refl _ _).alloc (zr _) _
 have k2:Below w1.heap.size w1 w2:=by rw[<-hw2];exact (Below.refl _ _).alloc (zr _) _
 have HK:Hid (Below w.heap.size w w2/\w2.heap.size=w.heap.size+2):=zh ⟨k1.trans (k2.mono (by omega)),by rw[<-hw2];simp[z1]⟩
 have HBX:Hid (Blk w2 w.heap.size 171 #[.slice A m c]):=zh (by
  have:Blk w1 w.heap.size 171 #[.slice A m c]:=by rw[<-hw1];exact Blk.new _ _ _
  exact this.under k2)
 have HBF:Hid (Blk w2 (w.heap.size+1) FAC (fzA z)):=zh (by
  have:Blk w2 w1.heap.size FAC (fzA z):=by rw[<-hw2];exact Blk.new _ _ _
  rwa [z1]at this)
 clear k1 k2
 have HC:Hid (Calls Tryz.prog 216 #[.slice A m c,.func (.func 217) #[] #[.pointer (some ⟨w.heap.size+1,0,none⟩)]] w2 (ROf ((l.map (holdsN (fzX z))).any id) w2)):=zh (by
  refine Zlm z _ B A m c xs (w.heap.size+1) w2 (hr.keep HK.o.1.size (fun i hi _=>HK.o.1.block i hi)) (by rw[List.length_map,hlm]) hm HBF.o (fun i v b hv hb W hW=>?_);rw[List.getElem?_map]at hb;obtain⟨n,hn,rfl⟩:=Option.map_eq_some_iff.1 hb;exact Zlk z _ v _ W (h i n v hn hv W (HK.o.1.trans (hW.mono HK.o.1.size))) (HBF.o.under hW))
 have hmf:∀(fn:Fn) (first cap:Array Value) (w:World),(Instr.makeFunc fn first cap).run Tryz.prog w = .ok (.func fn first cap) w:=fun _ _ _ _=>rfl;have n0:w2.cell? ⟨w.heap.size,0,none⟩=some (.slice A m c):=HBX.o.cell 0;obtain⟨y,hy⟩:=zG ((l.map (holdsN (fzX z))).any id);rw[hy]at HC ⊢;clear hr hlm h HH hy;go_enter Tryz.func215,Tryz.ntmps215;go_wp2_with fail;refine HC.o.mono ?_;rintro e w3 ⟨rfl,hb⟩;have HB3:=zh (HK.o.1.trans (hb.mono HK.o.1.size));clear hb hw1 hw2 n0 HC;go_wp2_with fail;go_ret;exact⟨rfl,HB3.o⟩
theorem Zp1 (z:Fz)(l:List Nd)(B:Nat)(A:Option Addr)(m c:Nat)(xs:List Value)(w:World)(hr:RowV w B A m c xs)(hlm:l.length=m)(hm:m<=1000000)(h:∀(i:Nat) n v,l[i]? = some n->xs[i]? = some v->∀W,Below w.heap.size w W->InvAt z (holdsN (fzX z) n) v W):Calls Tryz.prog 221 #[.agg #[.slice A m c],.agg (fzA z)] w (ROf (holdsN (fzX z) (.row 1 l)) w):=by
 have HH:Hid (holdsN (fzX z) (.row 1 l) = !((l.map (fun n=>!holdsN (fzX z) n)).any id)):=zh (by
  rw[holdsN];rw[if_neg (by omega),Zfd])
 rw[HH.o];show Calls Tryz.prog 221 #[.agg #[.slice A m c],.agg #[.string z.name,.string z.maker,.string z.tags,.int .i64 z.stock,.int .i64 z.price,.int .i64 z.born,.bool z.listed,.int .i64 z.now,.int .i64 z.age,.int .i64 z.fans,.bool z.follows,.bool z.done]] w _;obtain⟨w1,hw1⟩:=zG (w.alloc (.cells #[.slice A m c] 221));obtain⟨w2,hw2⟩:=zG (w1.alloc (.cells #[.string z.name,.string z.maker,.string z.tags,.int .i64 z.stock,.int .i64 z.price,.int .i64 z.born,.bool z.listed,.int .i64 z.now,.int .i64 z.age,.int .i64 z.fans,.bool z.follows,.bool z.done] FAC));have z1:w1.heap.size=w.heap.size+1:=by rw[<-hw1];simp
 have k1:Below w.heap.size w w1:=by rw[<-hw1];exact (Below.refl _ _).alloc (zr _) _
 have k2:Below w1.heap.size w1 w2:=by rw[<-hw2];exact (Below.refl _ _).alloc (zr _) _
 have HK:Hid (Below w.heap.size w w2/\w2.heap.size=w.heap.size+2):=zh ⟨k1.trans (k2.mono (by omega)),by rw[<-hw2];simp[z1]⟩
 have HBX:Hid (Blk w2 w.heap.size 221 #[.slice A m c]):=zh (by
  have:Blk w1 w.heap.size 221 #[.slice A m c]:=by rw[<-hw1];exact Blk.new _ _ _
  exact this.under k2)
 have HBF:Hid (Blk w2 (w.heap.size+1) FAC (fzA z)):=zh (by
  have:Blk w2 w1.heap.size FAC (fzA z):=by rw[<-hw2];exact Blk.new _ _ _
  rwa [z1]at this)
 clear k1 k2
 have HC:Hid (Calls Tryz.prog 216 #[.slice A m c,.func (.func 222) #[] #[.pointer (some ⟨w.heap.size+1,0,none⟩)]] w2 (ROf ((l.map (fun n=>!holdsN (fzX z) n)).any id) w2)):=zh (by
  refine Zp0 z _ B A m c xs (w.heap.size+1) w2 (hr.keep HK.o.1.size (fun i hi _=>HK.o.1.block i hi)) (by rw[List.length_map,hlm]) hm HBF.o (fun i v b hv hb W hW=>?_);rw[List.getElem?_map]at hb;obtain⟨n,hn,rfl⟩:=Option.map_eq_some_iff.1 hb;exact Zpy z _ v _ W (h i n v hn hv W (HK.o.1.trans (hW.mono HK.o.1.size))) (HBF.o.under hW))
 have hmf:∀(fn:Fn) (first cap:Array Value) (w:World),(Instr.makeFunc fn first cap).run Tryz.prog w = .ok (.func fn first cap) w:=fun _ _ _ _=>rfl;have n0:w2.cell? ⟨w.heap.size,0,none⟩=some (.slice A m c):=HBX.o.cell 0;obtain⟨y,hy⟩:=zG ((l.map (fun n=>!holdsN (fzX z) n)).any id);rw[hy]at HC ⊢;clear hr hlm h HH hy;go_enter Tryz.func221,Tryz.ntmps221;go_wp2_with fail;refine HC.o.mono ?_;rintro e w3 ⟨rfl,hb⟩;have HB3:=zh (HK.o.1.trans (hb.mono HK.o.1.size));clear hb hw1 hw2 n0 HC;go_wp2_with fail;go_ret;exact⟨rfl,HB3.o⟩
theorem Zp2 (z:Fz)(n:Nd)(v:Value)(w:World)(h:∀W,Below w.heap.size w W->InvAt z (holdsN (fzX z) n) v W):Calls Tryz.prog 220 #[.agg #[v],.agg (fzA z)] w (ROf (holdsN (fzX z) (.no n)) w):=by
 have HH:Hid (holdsN (fzX z) (.no n) = !holdsN (fzX z) n):=zh (by rw[holdsN]);rw[HH.o];obtain⟨b,hb0⟩:=zG (holdsN (fzX z) n);rw[hb0]at h ⊢;clear HH hb0;show Calls Tryz.prog 220 #[.agg #[v],.agg #[.string z.name,.string z.maker,.string z.tags,.int .i64 z.stock,.int .i64 z.price,.int .i64 z.born,.bool z.listed,.int .i64 z.now,.int .i64 z.age,.int .i64 z.fans,.bool z.follows,.bool z.done]] w _;obtain⟨w1,hw1⟩:=zG (w.alloc (.cells #[v] 220));obtain⟨w2,hw2⟩:=zG (w1.alloc (.cells #[.string z.name,.string z.maker,.string z.tags,.int .i64 z.stock,.int .i64 z.price,.int .i64 z.born,.bool z.listed,.int .i64 z.now,.int .i64 z.age,.int .i64 z.fans,.bool z.follows,.bool z.done] FAC));have z1:w1.heap.size=w.heap.size+1:=by rw[<-hw1];simp
 have k1:Below w.heap.size w w1:=by rw[<-hw1];exact (Below.refl _ _).alloc (zr _) _
 have k2:Below w1.heap.size w1 w2:=by rw[<-hw2];exact (Below.refl _ _).alloc (zr _) _
 have HK:Hid (Below w.heap.size w w2/\w2.heap.size=w.heap.size+2):=zh ⟨k1.trans (k2.mono (by omega)),by rw[<-hw2];simp[z1]⟩
 have HBX:Hid (Blk w2 w.heap.size 220 #[v]):=zh (by
  have:Blk w1 w.heap.size 220 #[v]:=by rw[<-hw1];exact Blk.new _ _ _
  exact this.under k2)
 have HBF:Hid (Blk w2 (w.heap.size+1) FAC (fzA z)):=zh (by
  have:Blk w2 w1.heap.size FAC (fzA z):=by rw[<-hw2];exact Blk.new _ _ _
  rwa [z1]at this)
 clear k1 k2;have n0:w2.cell? ⟨w.heap.size,0,none⟩=some v:=HBX.o.cell 0;obtain⟨c0,c1,c2,c3,c4,c5,c6,c7,c8,c9,c10,c11⟩:=Zh9 HBF.o;obtain⟨x,⟨rfl,hc⟩|⟨rfl,hc⟩|⟨rfl,hc⟩|⟨rfl,hc⟩|⟨rfl,hc⟩|⟨rfl,hc⟩⟩:=h w2 HK.o.1
 all_goals
  have HC:=zh hc;clear hc h;unfold fzA at HC;go_enter Tryz.func220,Tryz.ntmps220;go_wp2_with fail;refine HC.o.mono ?_;rintro e w3 ⟨rfl,hb⟩;have HB3:=zh (HK.o.1.trans (hb.mono HK.o.1.size));clear hb hw1 hw2 n0 HC c0 c1 c2 c3 c4 c5 c6 c7 c8 c9 c10 c11;go_wp2_with fail;go_ret;exact⟨rfl,HB3.o⟩
theorem Zsp (z:Fz)(hz:z.tags.size<=900000){n:Nd}(h:NF n):∀(B:Nat) (v:Value) (w:World),NdAt w B n v->(ownN n 0).length<=1000000->GlobAt w->∀W,Below w.heap.size w W->InvAt z (holdsN (fzX z) n) v W:=by
 induction h with
 | @atom a ha=>
  intro B v w hv hsz hg W hW;have hg2:=hg.keep hW (zr _);cases hv with
  | atom a=>
   have e:holdsN (fzX z) (.atom a)=holdsL (fzX z) a:=by rw[holdsN]
   rw[e];cases a with
   | follows=>exact⟨_,Or.inr (Or.inr (Or.inr (Or.inr (Or.inr ⟨rfl,Zg4 z W⟩))))⟩
   | done=>exact⟨_,Or.inr (Or.inr (Or.inr (Or.inr (Or.inr ⟨rfl,Zlj z W⟩))))⟩
   | tag x=>exact⟨_,Or.inr (Or.inr (Or.inr (Or.inl ⟨rfl,Znd z x W hz hg2⟩)))⟩
   | maker x=>exact⟨_,Or.inr (Or.inr (Or.inr (Or.inl ⟨rfl,Zi9 z x W⟩)))⟩
   | num k less n=>exact⟨_,Or.inr (Or.inr (Or.inr (Or.inr (Or.inl ⟨rfl,Znc z k less n ha.1 W⟩))))⟩
 | @no n hn ih=>
  intro B v w hv hsz hg W hW;cases hv with
  | no hv=>
   refine⟨_,Or.inr (Or.inr (Or.inl ⟨rfl,Zp2 z n _ W (fun V hV=>ih B _ w hv ?_ hg V (hW.trans (hV.mono hW.size)))⟩))⟩;rw[ownN]at hsz;simp at hsz;have:=Zdw n (show 0<=3 by omega);omega
 | @row k l hk h hf hl ih=>
  intro B v w hv hsz hg W hW;cases hv with
  | @row k l A m c xs hr hlm hnd=>
   have hL:(ownL l k).length<=1000000:=by rw[ownN,if_neg (by omega)]at hsz;exact hsz
   have hm:m<=1000000:=by
    have h1:∀l:List Nd,(∀n∈l,NF n)->l.length<=(ownM l k).length:=by
     intro l
     induction l with
     | nil=>intro _;exact Nat.zero_le _
     | cons n l ih=>
      intro h;rw[ownM];have h2:=ih (fun x hx=>h x (by simp[hx]));have h3:=Zkl (h n (by simp)) (k+1);simp only[List.length_append,List.length_cons];omega
    have h2:l.length<=(ownL l k).length:=by
     cases l with
     | nil=>exact Nat.zero_le _
     | cons n l=>
      rw[ownL];have h3:=h1 l (fun x hx=>h x (by simp[hx]));have h4:=Zkl (h n (by simp)) (k+1);simp only[List.length_append,List.length_cons];omega
    omega
   have hall:∀(i:Nat) n v,l[i]? = some n->xs[i]? = some v->∀V,Below W.heap.size W V->InvAt z (holdsN (fzX z) n) v V:=fun i n v hn hv V hV=>by
    have hmem:=List.mem_of_getElem? hn;have h3:=Zpx (k:=k) hmem;have h4:=Zdw n (show 0<=k+1 by omega);exact ih n hmem B v w (hnd i n v hn hv) (by omega) hg V (hW.trans (hV.mono hW.size))
   have hrW:RowV W B A m c xs:=hr.keep hW.size (fun i hi _=>hW.block i hi);rcases (show k=0\/k=1 by omega) with rfl|rfl
   ·exact⟨_,Or.inl ⟨rfl,Zln z l B A m c xs W hrW hlm hm hall⟩⟩
   ·exact⟨_,Or.inr (Or.inl ⟨rfl,Zp1 z l B A m c xs W hrW hlm hm hall⟩)⟩
noncomputable def holdsR (f:Fx):Option Nd->Bool
 | none=>true
 | some n=>holdsN f n
theorem Zlo (z:Fz)(p:Nat)(w:World)(hb:Blk w p 84 #[.nilIface]):Calls Tryz.prog 36 #[.pointer (some ⟨p,0,none⟩),.agg (fzA z)] w (ROf true w):=by
 show Calls Tryz.prog 36 #[.pointer (some ⟨p,0,none⟩),.agg #[.string z.name,.string z.maker,.string z.tags,.int .i64 z.stock,.int .i64 z.price,.int .i64 z.born,.bool z.listed,.int .i64 z.now,.int .i64 z.age,.int .i64 z.fans,.bool z.follows,.bool z.done]] w _;obtain⟨w1,hw1⟩:=zG (w.alloc (.cells #[.string z.name,.string z.maker,.string z.tags,.int .i64 z.stock,.int .i64 z.price,.int .i64 z.born,.bool z.listed,.int .i64 z.now,.int .i64 z.age,.int .i64 z.fans,.bool z.follows,.bool z.done] FAC));have k1:Below w.heap.size w w1:=by rw[<-hw1];exact (Below.refl _ _).alloc (zr _) _
 have n0:w1.cell? ⟨p,0,none⟩=some .nilIface:=(hb.under k1).cell 0;have HK:=zh k1;clear hb k1;go_enter Tryz.func36,Tryz.ntmps36;go_wp2_with fail;go_quiet (fail);go_wp2_with fail;go_ret;exact⟨rfl,below_drewN HK.o _⟩
theorem Zne (z:Fz)(w:World):Calls Tryz.prog 36 #[.pointer none,.agg (fzA z)] w (ROf true w):=by
 show Calls Tryz.prog 36 #[.pointer none,.agg #[.string z.name,.string z.maker,.string z.tags,.int .i64 z.stock,.int .i64 z.price,.int .i64 z.born,.bool z.listed,.int .i64 z.now,.int .i64 z.age,.int .i64 z.fans,.bool z.follows,.bool z.done]] w _;obtain⟨w1,hw1⟩:=zG (w.alloc (.cells #[.string z.name,.string z.maker,.string z.tags,.int .i64 z.stock,.int .i64 z.price,.int .i64 z.born,.bool z.listed,.int .i64 z.now,.int .i64 z.age,.int .i64 z.fans,.bool z.follows,.bool z.done] FAC));have k1:Below w.heap.size w w1:=by rw[<-hw1];exact (Below.refl _ _).alloc (zr _) _
 have HK:=zh k1;clear k1;go_enter Tryz.func36,Tryz.ntmps36;go_wp2_with fail;go_quiet (fail);go_wp2_with fail;go_ret;exact⟨rfl,below_drewN HK.o _⟩
theorem Zlp (z:Fz)(b:Bool)(p:Nat)(v:Value)(w:World)(hb:Blk w p 84 #[v])(h:∀W,Below w.heap.size w W->InvAt z b v W):Calls Tryz.prog 36 #[.pointer (some ⟨p,0,none⟩),.agg (fzA z)] w (ROf b w):=by
 show Calls Tryz.prog 36 #[.pointer (some ⟨p,0,none⟩),.agg #[.string z.name,.string z.maker,.string z.tags,.int .i64 z.stock,.int .i64 z.price,.int .i64 z.born,.bool z.listed,.int .i64 z.now,.int .i64 z.age,.int .i64 z.fans,.bool z.follows,.bool z.done]] w _;obtain⟨w1,hw1⟩:=zG (w.alloc (.cells #[.string z.name,.string z.maker,.string z.tags,.int .i64 z.stock,.int .i64 z.price,.int .i64 z.born,.bool z.listed,.int .i64 z.now,.int .i64 z.age,.int .i64 z.fans,.bool z.follows,.bool z.done] FAC));have k1:Below w.heap.size w w1:=by rw[<-hw1];exact (Below.refl _ _).alloc (zr _) _
 have HBF:Hid (Blk w1 w.heap.size FAC (fzA z)):=zB hw1;have HBR:=zh (hb.under k1);have HK:=zh k1;have H:=zh (h w1.drew (below_drew k1));clear hb k1 h;go_enter Tryz.func36,Tryz.ntmps36;go_upto_region 1 with fail;clear hw1;have HSC:Hid (∀W,Below w1.heap.size w1 W->W.cell? ⟨p,0,none⟩=some v/\Blk W w.heap.size FAC (fzA z)):=zh (fun W hW=>⟨(HBR.o.under hW).cell 0,HBF.o.under hW⟩);have HS0:Hid (Below w1.heap.size w1 w1.drew):=zh (below_drew (Below.refl _ _));obtain⟨x,⟨rfl,hc⟩|⟨rfl,hc⟩|⟨rfl,hc⟩|⟨rfl,hc⟩|⟨rfl,hc⟩|⟨rfl,hc⟩⟩:=H.o
 all_goals
  have HC:=zh hc;unfold fzA at HC;clear hc;refine Zar (fun V=>Below w1.heap.size w1 V) [(0,false),(1,false),(2,false),(3,false),(4,false),(5,false),(6,false),(7,false),(8,false),(9,false),(10,false),(11,false),(12,false),(13,false),(14,false),(15,true),(16,false),(17,false)] (by kernel_rfl) (by kernel_rfl) HS0.o ?_;simp only[planL,xq4,xq5]
  repeat ((first|(refine Zaf _ (by rfl) (fun W hW=>by (obtain⟨qv,qb⟩:=HSC.o W hW;obtain⟨c0,c1,c2,c3,c4,c5,c6,c7,c8,c9,c10,c11⟩:=Zh9 qb;clear qb;go_simp;try (first|with_reducible rfl|rw[if_neg (by omega)]))) ?_)|(refine Zac (by rfl) ?_));simp only[Act.put,xq1,xq2,xq3])
  refine Zae ?_;go_wp2_with fail;refine HC.o.mono ?_;rintro e w3 ⟨rfl,hb3⟩;have HB3:Hid (Below w1.heap.size w1 w3):=zh (HS0.o.trans (hb3.mono (zr _)));clear hb3 HC;go_wp2_with fail;refine⟨HB3.o,?_⟩
  repeat ((first|(refine Zaf _ (by rfl) (fun W hW=>by (obtain⟨qv,qb⟩:=HSC.o W hW;obtain⟨c0,c1,c2,c3,c4,c5,c6,c7,c8,c9,c10,c11⟩:=Zh9 qb;clear qb;go_simp;try (first|with_reducible rfl|rw[if_neg (by omega)]))) ?_)|(refine Zac (by rfl) ?_));simp only[Act.put,xq1,xq2,xq3])
  refine Zah ?_;go_wp2_with fail;go_ret;exact⟨rfl,HK.o.trans (HB3.o.mono HK.o.size)⟩
theorem Znf (z:Fz)(hz:z.tags.size<=900000)(r:Option Nd)(B:Nat)(v:Value)(w:World)(hv:RuleV w B (some r) v)(hsz:(ruleT r).size<=1000000)(hg:GlobAt w):Calls Tryz.prog 36 #[v,.agg (fzA z)] w (ROf (holdsR (fzX z) r) w):=by
 cases r with
 | none=>
  obtain⟨g,rfl,_,hb⟩:=hv;exact Zlo z g w hb
 | some n=>
  obtain⟨hn,g,u,rfl,_,hb,hu⟩:=hv;exact Zlp z _ g u w hb (Zsp z hz hn B u w hu (by rw[<-Zm9];exact hsz) hg)
end Go.Proofs.YtnpfaajhgghpgaaGreatDoor.Ru
namespace Go.Proofs.YtnpfaajhgghpgaaGreatDoor
open Ct (It St it0 st0 atP takesB catB stepSt rowOf uptoP ofN rowStep)
open Ru (Fz fzX Nd holdsR)
def fzOf (es:List Ev)(p i:ByteArray)(now:Int):Fz:=
 ⟨((atP (thgs es) i now).getD it0).name,((atP (thgs es) i now).getD it0).maker,((atP (thgs es) i now).getD it0).tags,((atP (thgs es) i now).getD it0).stock,((atP (thgs es) i now).getD it0).price,((atP (thgs es) i now).getD it0).born,((atP (thgs es) i now).getD it0).listed,now,if (atP (thgs es) i now).isSome then now - ((atP (thgs es) i now).getD it0).born else 0,fansN (rowsW es) i,(atP (thgs es) i now).isSome&&decide (folO (rowsW es) p ((atP (thgs es) i now).getD it0).maker=some true),doneB (rowsW es) p i⟩
def hidP (es:List Ev)(p i:ByteArray)(now:Int):Bool:=(hidO (rowsW es) p i).getD false || decide (mutO (rowsW es) p ((atP (thgs es) i now).getD it0).maker=some true)
noncomputable def okP (r:Option (Option Nd)) (z:Fz):Bool:=match r with|none=>true|some r=>holdsR (fzX z) r
def whyP (z:Fz)(hid:Bool)(crowd span:Int)(ok:Bool):Nat:=
 if z.listed=false then 1 else if z.stock=0 then 2 else if hid then 3 else if z.done then 4 else if z.fans<crowd/\span<z.age then 5 else if ok=false then 6 else 0
noncomputable def whyW (es:List Ev) (p i:ByteArray) (now crowd span:Int) (r:Option (Option Nd)):Nat:=whyP (fzOf es p i now) (hidP es p i now) crowd span (okP r (fzOf es p i now))
theorem Zdf (z:Fz)(hid:Bool)(crowd span:Int)(ok:Bool):whyP z hid crowd span ok<=6:=by
 unfold whyP
 repeat (first|omega|split)
theorem Zsq {Q:It->Prop}{es:List Ev}{n:ByteArray}(h0:Q (st0 n).item)(hs:∀e∈es,e.item=n->∀s:St,(s.isborn=true->0<=s.item.born)->Q s.item->Q (stepSt s e).item)(hb:∀e∈es,0<=e.tick):∀s∈rowOf es n,Q s.item/\(s.isborn=true->0<=s.item.born):=by
 refine snocI (p:=fun es=>(∀e∈es,e.item=n->∀s:St,(s.isborn=true->0<=s.item.born)->Q s.item->Q (stepSt s e).item)->(∀e∈es,0<=e.tick)->∀s∈rowOf es n,Q s.item/\(s.isborn=true->0<=s.item.born)) (fun _ _ s h=>by cases h) (fun l a ih h1 h2 s h=>?_) es hs hb;have ih':=ih (fun e he=>h1 e (List.mem_append_left _ he)) (fun e he=>h2 e (List.mem_append_left _ he));rw[Ct.Zc3]at h;by_cases hn:a.item=n
 ·rw[if_pos hn]at h;unfold rowStep at h;rcases List.mem_append.1 h with h|h
  ·exact ih' s h
  ·obtain rfl:s=stepSt ((rowOf l n).getLast?.getD (st0 a.item)) a:=by simpa using h
   have hq:Q ((rowOf l n).getLast?.getD (st0 a.item)).item/\(((rowOf l n).getLast?.getD (st0 a.item)).isborn=true->0<=((rowOf l n).getLast?.getD (st0 a.item)).item.born):=by
    cases hl:(rowOf l n).getLast? with
    | none=>rw[hn];exact⟨h0,fun h=>by cases h⟩
    | some s'=>exact ih' s' (List.mem_of_getLast? hl)
   refine⟨h1 a (by simp) hn _ hq.2 hq.1,?_⟩;intro hb;have ht:=h2 a (by simp);unfold stepSt at hb ⊢;split
   ·dsimp only;split
    ·rename_i h3;exact hq.2 h3
    ·exact ht
   ·rename_i hk
    rw[if_neg hk]at hb;split
    ·rename_i hk2;rw[if_pos hk2]at hb;exact hq.2 hb
    ·rename_i hk2;rw[if_neg hk2]at hb;exact hq.2 hb
 ·rw[if_neg hn]at h;exact ih' s h
theorem Zng {Q:It->Prop}{es:List Ev}{n:ByteArray}{t:Int}{x:It}(h0:Q (st0 n).item)(hs:∀e∈es,e.item=n->∀s:St,(s.isborn=true->0<=s.item.born)->Q s.item->Q (stepSt s e).item)(hb:∀e∈es,0<=e.tick)(hx:atP es n t=some x):Q x:=by
 unfold atP at hx;obtain⟨s,h1,rfl⟩:=Option.map_eq_some_iff.1 hx;have h2:s∈rowOf es n:=(List.takeWhile_sublist _).subset (List.mem_of_getLast? h1);exact (Zsq h0 hs hb s h2).1
theorem Zeo {α:Type}{p:α->Bool}:∀{l:List α} {x:α},x∈l.takeWhile p->p x=true
 | [],x,h=>by cases h
 | a::l,x,h=>by
  cases ha:p a with
  | true=>
   rw[List.takeWhile_cons_of_pos ha]at h;rcases List.mem_cons.1 h with rfl|h
   ·exact ha
   ·exact Zeo h
  | false=>
   rw[List.takeWhile_cons_of_neg (by simp[ha])]at h;cases h
theorem Zsr {es:List Ev}{n:ByteArray}{t:Int}{x:It}(hb:∀e∈es,0<=e.tick)(hx:atP es n t=some x):0<=t:=by
 unfold atP at hx;obtain⟨s,h1,rfl⟩:=Option.map_eq_some_iff.1 hx;have h2:=List.mem_of_getLast? h1;have h3:s.tick<=t:=of_decide_eq_true (Zeo (p:=fun s:St=>decide (s.tick<=t)) h2);have h4:s∈rowOf es n:=(List.takeWhile_sublist _).subset h2;have h5:s.tick∈(rowOf es n).map (·.tick):=List.mem_map_of_mem h4;rw[Ct.Zck]at h5;obtain⟨e,he,h6⟩:=List.mem_map.1 h5;have:=hb e (List.mem_filter.1 he).1;omega
structure ItOk (m:Nat) (x:It):Prop where
 name:x.name.size<=m
 maker:x.maker.size<=m
 tags:x.tags.size<=m
 stock:0<=x.stock/\x.stock<=1048576
 price:0<=x.price/\x.price<=1048576
 born:0<=x.born/\x.born<=1099511627776
theorem Zas {e:Ev}(h:mayB e=true):nameB e.src=true/\(1<=e.num/\e.num<=1099511627776)/\(0<=e.tick/\e.tick<=1099511627776)/\kindB e=true:=by
 unfold mayB at h;rw[Bool.and_eq_true,Bool.and_eq_true,Bool.and_eq_true]at h;exact⟨h.1,of_decide_eq_true h.2.1,of_decide_eq_true h.2.2.1,h.2.2.2⟩
theorem Zss {e:Ev}(h:mayB e=true)(hc:isCat e=true):e.person=⟨#[]⟩/\nameB e.item=true/\0<=e.value/\e.value<=1048576:=by
 have hk:=(Zas h).2.2.2;have hc2:e.kind=11\/e.kind=12\/e.kind=13:=of_decide_eq_true hc;unfold kindB at hk;rcases hc2 with h1|h1|h1 <;> rw[h1]at hk <;> simp[Zcj,empB]at hk <;> simp_all
def EvLe (m:Nat)(e:Ev):Prop:=e.src.size<=m/\e.person.size<=m/\e.item.size<=m/\e.text.size<=m
theorem at_ok {es:List Ev}{m:Nat}(hm:∀e∈es,mayB e=true)(hl:∀e∈es,EvLe m e){n:ByteArray}(hn:n.size<=m){t:Int}{x:It}(hx:atP (thgs es) n t=some x):ItOk m x:=by
 refine Zng (Q:=ItOk m) ⟨hn,Nat.zero_le _,Nat.zero_le _,⟨Int.le_refl _,by show (0:Int)<=_;omega⟩,⟨Int.le_refl _,by show (0:Int)<=_;omega⟩,⟨Int.le_refl _,by show (0:Int)<=_;omega⟩⟩ (fun e he _ s hb hq=>?_) (fun e he=>(Zas (hm e (Zax.1 he).1)).2.2.1.1) hx;obtain⟨he1,he2⟩:=Zax.1 he;have hv:=(Zss (hm e he1) he2).2.2;have ht:=(Zas (hm e he1)).2.2.1;have hle:=hl e he1;unfold stepSt;split
 ·refine⟨hq.name,Nat.le_trans (Zip _) hle.2.2.2,Nat.le_trans (Ze5 _) hle.2.2.2,hq.stock,hv,?_⟩;dsimp only;split
  ·exact hq.born
  ·exact ht
 ·split
  ·exact⟨hq.name,hq.maker,hq.tags,hv,hq.price,hq.born⟩
  ·exact⟨hq.name,hq.maker,hq.tags,hq.stock,hq.price,hq.born⟩
theorem Ztx {es:List Ev}{m:Nat}(hm:∀e∈es,mayB e=true)(hl:∀e∈es,EvLe m e){n:ByteArray}(hn:n.size<=m){t:Int}{x:It}(hx:atP (thgs es) n t=some x)(ht:t<=9223372036854775807):IntKind.i64.wrap (t - x.born)=t - x.born:=by
 have h1:=(at_ok hm hl hn hx).born;have h2:=Zsr (fun e he=>(Zas (hm e (Zax.1 he).1)).2.2.1.1) hx;exact IntWalk.i64_in _ (by omega)
end Go.Proofs.YtnpfaajhgghpgaaGreatDoor
