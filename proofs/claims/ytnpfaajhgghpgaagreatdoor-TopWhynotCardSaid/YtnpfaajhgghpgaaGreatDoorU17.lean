/- A part of the joined base. -/
import Derived.Test.YtnpfaajhgghpgaaGreatDoorU16
import Derived.Lib.LaidTab
import Derived.Lib.AppendIntMem
set_option linter.unusedVariables false
set_option maxHeartbeats 8000000
set_option maxRecDepth 100000
namespace Go.Proofs.YtnpfaajhgghpgaaGreatDoor.Ru
open Go.RowKit Go.Maps Go.Shelf
theorem Zgz:(Tryz.prog.info? 82).map (fun i=>(i.zero,i.size,i.bytes))=some (some .nilIface,1,16):=by kernel_rfl
theorem Zen (w:World)(v:Value)(e:TypeId){n:Nat}(hn:w.heap.size=n):RowIn (w.alloc (.cells #[v] e)) (n+1) 1 (some ⟨n,0,none⟩) 1 [v]:=by
 subst hn;refine⟨rfl,Or.inr ⟨w.heap.size,0,rfl,by omega,fun j u hu=>?_⟩⟩;rw[(Blk.new w e _).cell];rw[<-hu,Nat.zero_add];simp
theorem PartsOk.at {w:World}{B M:Nat}{vs:List Value}(h:PartsOk w B vs M):∀{k:Nat} {v:Value},vs[k]? = some v->∃N,Okv w B N v:=by
 induction h with
 | nil=>intro k v hv;simp at hv
 | @snoc vs M N u h hu ih=>
  intro k v hv;by_cases hk:k<vs.length
  ·rw[List.getElem?_append_left hk]at hv;exact ih hv
  ·rw[List.getElem?_append_right (by omega)]at hv;have:=List.mem_of_getElem? hv;rw[List.mem_singleton]at this;subst this;exact⟨N,hu⟩
theorem PartsOk.take {w:World}{B M:Nat}{vs:List Value}(h:PartsOk w B vs M)(k:Nat):∃M',PartsOk w B (vs.take k) M'/\M'<=M:=by
 induction h with
 | nil=>exact⟨0,by rw[List.take_nil];exact .nil,zr _⟩
 | @snoc vs M N u h hu ih=>
  by_cases hk:k<=vs.length
  ·obtain⟨M',h1,h2⟩:=ih;exact⟨M',by rw[List.take_append_of_le_length hk];exact h1,by omega⟩
  ·exact⟨M+N,by rw[List.take_of_length_le (by simp;omega)];exact .snoc h hu,zr _⟩
theorem Zdu {w:World}{B M:Nat}{vs:List Value}(h:PartsOk w B vs M):vs.length<=M:=by
 induction h with
 | nil=>simp
 | snoc h hu ih=>have:=hu.1;simp;omega
theorem Zm5 (k:Nat)(hk:k<2):∃fs,Tryz.prog.underlying (rowT k)=some (.struct fs):=by
 rcases (show k=0\/k=1 by omega) with rfl|rfl
 ·exact⟨_,Tryz.underlying171⟩
 ·exact⟨_,Tryz.underlying221⟩
theorem Zkh (k:Nat)(hk:k<2)(V:World):(zeroValue (rowT k)).run Tryz.prog V = .ok (.agg #[.slice none 0 0]) V:=by
 rcases (show k=0\/k=1 by omega) with rfl|rfl <;> kernel_rfl
theorem Zri (k:Nat)(hk:k<2)(x:Value)(V:World){t:TypeId}:(Instr.typeAssert (.iface (rowT k) x) t (rowT k) true).run Tryz.prog V = .ok (.tuple #[x,.bool true]) V:=by
 obtain⟨fs,hf⟩:=Zm5 k hk;simp[Instr.typeAssert,run_underlying hf]
theorem Zm6 (k:Nat)(hk:k<2)(v:Value)(hv:v = .nilIface\/∃t x,v = .iface t x)(hno:∀x,v≠.iface (rowT k) x)(V:World){t:TypeId}:(Instr.typeAssert v t (rowT k) true).run Tryz.prog V = .ok (.tuple #[.agg #[.slice none 0 0],.bool false]) V:=by
 obtain⟨fs,hf⟩:=Zm5 k hk;rcases hv with rfl|⟨t',x,rfl⟩
 ·simp[Instr.typeAssert,run_underlying hf,Zkh k hk]
 ·have hne:t'≠rowT k:=fun e=>hno x (by rw[e]);simp[Instr.typeAssert,run_underlying hf,Zkh k hk,hne]
theorem Zpl (B n c M:Nat)(A:Option Addr)(vs:List Value)(w:World)(hrow:RowV w B A n c vs)(hn1:1<=n)(hp:PartsOk w B vs M)(hM:M<=100000)(hB:B<=w.heap.size) :
  Calls Tryz.prog 53 #[.slice A n c] w fun e w'=>∃v us,e = .returned v/\Flat w B 0 vs us/\Below w.heap.size w w'/\(us = [v]\/(2<=us.length/\∃A' c',v = .iface (rowT 0) (.agg #[.slice A' us.length c'])/\RowV w' B A' us.length c' us)):=by
 obtain⟨i0,hi0,hz0,hz1,hz2⟩:=info_parts Zgz;have HROW:=zh hrow;have HP:=zh hp;have HONE:=zh hrow.one;have hnM:n<=100000:=by have:=Zdu hp;have:=hrow.len;omega
 obtain⟨g,o,rfl,hg,hc⟩:=hrow.row.at (by omega);have HCL:Hid (∀V,Below w.heap.size w V->∀(j:Nat) u,vs[j]? = some u->V.cell? ⟨g,o+j,none⟩=some u):=zh (fun V hV j u hu=>(hV.cell (p:=⟨g,o+j,none⟩) hg).trans (hc j u hu));clear hrow hp hc;go_enter Tryz.func53,Tryz.ntmps53;go_wp2_with fail;go_loopw [3,10] (fun v i wr=>∃(k m c5:Nat) (A5:Option Addr) (us:List Value),k<=n/\i = .int .i64 k/\v = .slice A5 m c5/\Hid (us.length=m)/\m<=M/\Hid (∀u∈us,u.oneCell'=true)/\Hid (wr.ownsRow w.heap.size 82 1 (.slice A5 m c5) m us)/\Hid (Flat w B 0 (vs.take k) us)/\Hid (Below w.heap.size w wr)) (fun _ i _=>n - (intOf i).toNat)
 case atStart=>exact⟨0,0,0,none,[],Nat.zero_le _,rfl,rfl,zh rfl,Nat.zero_le _,zh (fun u hu=>by simp at hu),zh ⟨by simp,Or.inl ⟨rfl,rfl⟩⟩,zh Flat.nil,zh (Below.refl _ _)⟩
 case round=>
  obtain⟨k,m,c5,A5,us,hk,rfl,rfl,hm,hmM,hone,hown,hfl,hbw⟩:=hrel;have hwz:=hbw.o.size;have hk9:(0:Int)<=(k:Int):=by omega
  by_cases hlt:k<n
  ·have hk8:(k:Int)<(n:Int):=by omega
   obtain⟨v,hv⟩:∃v,vs[k]? = some v:=⟨_,List.getElem?_eq_getElem (by rw[HROW.o.len];exact hlt)⟩
   have e0:=HCL.o wr hbw.o k v hv;have HTK:Hid (vs.take (k+1)=vs.take k++[v]):=zh (by rw[List.take_add_one,hv];rfl)
   have HFEW:Hid (∀us',Flat w B 0 (vs.take (k+1)) us'->us'.length<=M):=zh (fun us' h=>by
    obtain⟨M',hM',hle⟩:=HP.o.take (k+1);have:=(h.few (by omega) hM').1;omega)
   obtain⟨N,hok⟩:=HP.o.at hv;have HV1:Hid (v.oneCell'=true):=zh hok.2.1;clear hv;by_cases hhit:∃A1 m1 c1,v = .iface (rowT 0) (.agg #[.slice A1 m1 c1])
   ·obtain⟨A1,m1,c1,rfl⟩:=hhit;have hrv:∃xs,RowV w B A1 m1 c1 xs:=by
     obtain⟨_,_,h2|⟨t,x,e,h3,h4⟩|⟨k',A',m',c',xs',hk',e,hr',hm',hm2⟩⟩:=hok
     ·cases h2
     ·injection e with e1 _;exact absurd e1.symm h3
     ·injection e with e1 e2;have e3:(#[Value.slice A1 m1 c1]:Array Value)=#[.slice A' m' c']:=by injection e2
      have e4:Value.slice A1 m1 c1 = .slice A' m' c':=by simpa using e3
      injection e4 with e5 e6 e7;subst e5 e6 e7;exact⟨xs',hr'⟩
    obtain⟨xs,hxs⟩:=hrv;have HXS:=zh hxs;have HFL:Hid (Flat w B 0 (vs.take (k+1)) (us++xs)):=zh (by rw[HTK.o];exact hfl.o.row hxs);have hta:∀V,(Instr.typeAssert (.iface (rowT 0) (.agg #[.slice A1 m1 c1])) 82 171 true).run Tryz.prog V = .ok (.tuple #[.agg #[.slice A1 m1 c1],.bool true]) V:=fun V=>Zri 0 (by omega) _ V;have hxl:m+m1<=M:=by
     have:=HFEW.o _ HFL.o;rw[List.length_append,hm.o,hxs.len]at this;exact this
    obtain⟨v0,hv0⟩:∃v0:Value,.iface (rowT 0) (.agg #[.slice A1 m1 c1])=v0:=⟨_,rfl⟩
    rw[hv0]at e0 hta;have HR1:Hid (RowIn (wr.alloc (.cells #[.slice A1 m1 c1] 171)) w.heap.size 1 A1 m1 xs):=zh ((hxs.row.below hbw.o).alloc hwz _);clear hxs hok hv0
    go_wp2_with (first
     | (at_builtin;refine Zaa _ rfl _ _ 124 rfl w.heap.size 82 i0 _ 1 16 Tryz.underlying124 hi0 hz0 hz1 hz2 rfl (by omega) (.slice A5 m c5) m _ rfl (hown.o.alloc _) w.heap.size A1 m1 c1 xs rfl HR1.o HXS.o.nc HXS.o.one (by unfold maxLen;omega) (by omega) (by simp;omega) ?_;intro v7 w7 ho7 hg7 hv7))
    obtain⟨A7,c7,hr7⟩:=own_shape ho7;subst hr7;go_wp2_with fail;go_roundw
    case rel=>
     refine⟨k+1,m+m1,c7,A7,us++xs,by omega,by go_num,rfl,zh (by rw[List.length_append,hm.o,HXS.o.len]),hxl,zh (fun u hu=>?_),zh ho7,HFL,zh ((hbw.o.alloc hwz _).grown hg7 (by simp;omega) (fun j hj=>(hown.o.lt _ hj).1))⟩;rcases List.mem_append.1 hu with hu|hu
     ·exact hone.o u hu
     ·exact HXS.o.one u hu
    case measure=>simp[intOf];omega
   ·have hno:∀x,v≠.iface (rowT 0) x:=fun x e=>by
     obtain⟨_,_,h2|⟨t,y,e',h3,h4⟩|⟨k',A',m',c',xs',hk',e',hr',hm',hm2⟩⟩:=hok
     ·rw[h2]at e;cases e
     ·rw[e']at e;injection e with e1 _;exact absurd e1 h3
     ·rw[e']at e;injection e with e1 e2;obtain rfl:=Zgy hk' (by omega) e1;exact hhit ⟨_,_,_,e'⟩
    have HFL:Hid (Flat w B 0 (vs.take (k+1)) (us++[v])):=zh (by rw[HTK.o];exact hfl.o.one hno)
    have hta:∀V,(Instr.typeAssert v 82 171 true).run Tryz.prog V = .ok (.tuple #[.agg #[.slice none 0 0],.bool false]) V:=fun V=>Zm6 0 (by omega) v (by
     obtain⟨_,_,h2|⟨t,y,e',_⟩|⟨k',A',m',c',xs',_,e',_⟩⟩:=hok
     ·exact Or.inl h2
     ·exact Or.inr ⟨_,_,e'⟩
     ·exact Or.inr ⟨_,_,e'⟩) hno V
    have hxl:m+1<=M:=by
     have:=HFEW.o _ HFL.o;rw[List.length_append,hm.o]at this;exact this
    have HV2:Hid (∀u∈[v],u.oneCell'=true):=zh (fun u hu=>by simp at hu;subst hu;exact HV1.o);have hform:v = .nilIface\/∃t x,v = .iface t x:=by
     obtain⟨_,_,h2|⟨t,y,e',_⟩|⟨k',A',m',c',xs',_,e',_⟩⟩:=hok
     ·exact Or.inl h2
     ·exact Or.inr ⟨_,_,e'⟩
     ·exact Or.inr ⟨_,_,e'⟩
    rcases hform with rfl|⟨t,x,rfl⟩
    ·clear hno hhit hok
     go_wp2_with (first
      | (at_builtin;refine Zaa _ rfl _ _ 124 rfl w.heap.size 82 i0 _ 1 16 Tryz.underlying124 hi0 hz0 hz1 hz2 rfl (by omega) (.slice A5 m c5) m _ rfl ((hown.o.alloc _).alloc _) (wr.heap.size+1+1) (some ⟨wr.heap.size+1,0,none⟩) 1 1 [.nilIface] rfl (Zen (wr.alloc _) .nilIface _ (by simp)) (fun h=>by cases h) HV2.o (by unfold maxLen;omega) (by omega) (by simp;omega) ?_;intro v7 w7 ho7 hg7 hv7))
     obtain⟨A7,c7,hr7⟩:=own_shape ho7;subst hr7;go_wp2_with fail;go_roundw
     case rel=>
      refine⟨k+1,m+1,c7,A7,us++[.nilIface],by omega,by go_num,rfl,zh (by rw[List.length_append,hm.o];rfl),hxl,zh (fun u hu=>?_),zh ho7,HFL,zh (((hbw.o.alloc hwz _).alloc (by simp;omega) _).grown hg7 (by simp;omega) (fun j hj=>(hown.o.lt _ hj).1))⟩;rcases List.mem_append.1 hu with hu|hu
      ·exact hone.o u hu
      ·exact HV2.o u hu
     case measure=>simp[intOf];omega
    ·clear hno hhit hok
     go_wp2_with (first
      | (at_builtin;refine Zaa _ rfl _ _ 124 rfl w.heap.size 82 i0 _ 1 16 Tryz.underlying124 hi0 hz0 hz1 hz2 rfl (by omega) (.slice A5 m c5) m _ rfl ((hown.o.alloc _).alloc _) (wr.heap.size+1+1) (some ⟨wr.heap.size+1,0,none⟩) 1 1 [.iface t x] rfl (Zen (wr.alloc _) (.iface t x) _ (by simp)) (fun h=>by cases h) HV2.o (by unfold maxLen;omega) (by omega) (by simp;omega) ?_;intro v7 w7 ho7 hg7 hv7))
     obtain⟨A7,c7,hr7⟩:=own_shape ho7;subst hr7;go_wp2_with fail;go_roundw
     case rel=>
      refine⟨k+1,m+1,c7,A7,us++[.iface t x],by omega,by go_num,rfl,zh (by rw[List.length_append,hm.o];rfl),hxl,zh (fun u hu=>?_),zh ho7,HFL,zh (((hbw.o.alloc hwz _).alloc (by simp;omega) _).grown hg7 (by simp;omega) (fun j hj=>(hown.o.lt _ hj).1))⟩;rcases List.mem_append.1 hu with hu|hu
      ·exact hone.o u hu
      ·exact HV2.o u hu
     case measure=>simp[intOf];omega
  ·obtain rfl:k=n:=by omega
   have HFL:Hid (Flat w B 0 vs us):=zh (by have:=hfl.o;rw[List.take_of_length_le (by rw[HROW.o.len];exact zr _)]at this;exact this);have hmk:k<=m:=by
    have:=(HFL.o.few (by omega) HP.o).2.1;rw[hm.o,HROW.o.len]at this;exact this
   by_cases h1:m=1
   ·subst h1;obtain⟨u,hu⟩:∃u,us = [u]:=List.length_eq_one_iff.1 hm.o;obtain⟨g7,cap,hv7,_,hgl⟩:=hown.o.form (by omega);injection hv7 with hA _ _;subst hA;have e0:wr.cell? ⟨g7,0,none⟩=some u:=by
     have:=hown.o.cells (g:=g7) rfl 0 u (by rw[hu];rfl);rw[at_add,Nat.zero_add]at this;exact this
    have HU:=zh hu;clear hu;go_wp2_with fail;go_ret;exact⟨u,rfl,us,HFL.o,hbw.o,Or.inl HU.o⟩
   ·have h2:¬(m:Int)=1:=by omega
    have HFIN:Hid (RowV wr B A5 m c5 us):=zh (by
     refine⟨RowIn.of_own hown.o,hm.o,fun g' o' e=>?_,fun e=>?_,hone.o⟩
     ·have:=(hown.o.lt g' (by rw[e];rfl)).1;omega
     ·obtain⟨g7,cap,hv7,_⟩:=hown.o.form (by omega);injection hv7 with hA _ _;rw[e]at hA;cases hA)
    go_wp2_with fail;go_ret;refine⟨_,us,rfl,HFL.o,hbw.o,Or.inr ⟨by rw[hm.o];omega,A5,c5,?_,by rw[hm.o];exact HFIN.o⟩⟩;rw[hm.o]
    rfl
theorem Zm7 (B n c M:Nat)(A:Option Addr)(vs:List Value)(w:World)(hrow:RowV w B A n c vs)(hn1:1<=n)(hp:PartsOk w B vs M)(hM:M<=100000)(hB:B<=w.heap.size) :
  Calls Tryz.prog 99 #[.slice A n c] w fun e w'=>∃v us,e = .returned v/\Flat w B 1 vs us/\Below w.heap.size w w'/\(us = [v]\/(2<=us.length/\∃A' c',v = .iface (rowT 1) (.agg #[.slice A' us.length c'])/\RowV w' B A' us.length c' us)):=by
 obtain⟨i0,hi0,hz0,hz1,hz2⟩:=info_parts Zgz;have HROW:=zh hrow;have HP:=zh hp;have HONE:=zh hrow.one;have hnM:n<=100000:=by have:=Zdu hp;have:=hrow.len;omega
 obtain⟨g,o,rfl,hg,hc⟩:=hrow.row.at (by omega);have HCL:Hid (∀V,Below w.heap.size w V->∀(j:Nat) u,vs[j]? = some u->V.cell? ⟨g,o+j,none⟩=some u):=zh (fun V hV j u hu=>(hV.cell (p:=⟨g,o+j,none⟩) hg).trans (hc j u hu));clear hrow hp hc;go_enter Tryz.func99,Tryz.ntmps99;go_wp2_with fail;go_loopw [3,10] (fun v i wr=>∃(k m c5:Nat) (A5:Option Addr) (us:List Value),k<=n/\i = .int .i64 k/\v = .slice A5 m c5/\Hid (us.length=m)/\m<=M/\Hid (∀u∈us,u.oneCell'=true)/\Hid (wr.ownsRow w.heap.size 82 1 (.slice A5 m c5) m us)/\Hid (Flat w B 1 (vs.take k) us)/\Hid (Below w.heap.size w wr)) (fun _ i _=>n - (intOf i).toNat)
 case atStart=>exact⟨0,0,0,none,[],Nat.zero_le _,rfl,rfl,zh rfl,Nat.zero_le _,zh (fun u hu=>by simp at hu),zh ⟨by simp,Or.inl ⟨rfl,rfl⟩⟩,zh Flat.nil,zh (Below.refl _ _)⟩
 case round=>
  obtain⟨k,m,c5,A5,us,hk,rfl,rfl,hm,hmM,hone,hown,hfl,hbw⟩:=hrel;have hwz:=hbw.o.size;have hk9:(0:Int)<=(k:Int):=by omega
  by_cases hlt:k<n
  ·have hk8:(k:Int)<(n:Int):=by omega
   obtain⟨v,hv⟩:∃v,vs[k]? = some v:=⟨_,List.getElem?_eq_getElem (by rw[HROW.o.len];exact hlt)⟩
   have e0:=HCL.o wr hbw.o k v hv;have HTK:Hid (vs.take (k+1)=vs.take k++[v]):=zh (by rw[List.take_add_one,hv];rfl)
   have HFEW:Hid (∀us',Flat w B 1 (vs.take (k+1)) us'->us'.length<=M):=zh (fun us' h=>by
    obtain⟨M',hM',hle⟩:=HP.o.take (k+1);have:=(h.few (by omega) hM').1;omega)
   obtain⟨N,hok⟩:=HP.o.at hv;have HV1:Hid (v.oneCell'=true):=zh hok.2.1;clear hv;by_cases hhit:∃A1 m1 c1,v = .iface (rowT 1) (.agg #[.slice A1 m1 c1])
   ·obtain⟨A1,m1,c1,rfl⟩:=hhit;have hrv:∃xs,RowV w B A1 m1 c1 xs:=by
     obtain⟨_,_,h2|⟨t,x,e,h3,h4⟩|⟨k',A',m',c',xs',hk',e,hr',hm',hm2⟩⟩:=hok
     ·cases h2
     ·injection e with e1 _;exact absurd e1.symm h4
     ·injection e with e1 e2;have e3:(#[Value.slice A1 m1 c1]:Array Value)=#[.slice A' m' c']:=by injection e2
      have e4:Value.slice A1 m1 c1 = .slice A' m' c':=by simpa using e3
      injection e4 with e5 e6 e7;subst e5 e6 e7;exact⟨xs',hr'⟩
    obtain⟨xs,hxs⟩:=hrv;have HXS:=zh hxs;have HFL:Hid (Flat w B 1 (vs.take (k+1)) (us++xs)):=zh (by rw[HTK.o];exact hfl.o.row hxs);have hta:∀V,(Instr.typeAssert (.iface (rowT 1) (.agg #[.slice A1 m1 c1])) 82 221 true).run Tryz.prog V = .ok (.tuple #[.agg #[.slice A1 m1 c1],.bool true]) V:=fun V=>Zri 1 (by omega) _ V;have hxl:m+m1<=M:=by
     have:=HFEW.o _ HFL.o;rw[List.length_append,hm.o,hxs.len]at this;exact this
    obtain⟨v0,hv0⟩:∃v0:Value,.iface (rowT 1) (.agg #[.slice A1 m1 c1])=v0:=⟨_,rfl⟩
    rw[hv0]at e0 hta;have HR1:Hid (RowIn (wr.alloc (.cells #[.slice A1 m1 c1] 221)) w.heap.size 1 A1 m1 xs):=zh ((hxs.row.below hbw.o).alloc hwz _);clear hxs hok hv0
    go_wp2_with (first
     | (at_builtin;refine Zaa _ rfl _ _ 124 rfl w.heap.size 82 i0 _ 1 16 Tryz.underlying124 hi0 hz0 hz1 hz2 rfl (by omega) (.slice A5 m c5) m _ rfl (hown.o.alloc _) w.heap.size A1 m1 c1 xs rfl HR1.o HXS.o.nc HXS.o.one (by unfold maxLen;omega) (by omega) (by simp;omega) ?_;intro v7 w7 ho7 hg7 hv7))
    obtain⟨A7,c7,hr7⟩:=own_shape ho7;subst hr7;go_wp2_with fail;go_roundw
    case rel=>
     refine⟨k+1,m+m1,c7,A7,us++xs,by omega,by go_num,rfl,zh (by rw[List.length_append,hm.o,HXS.o.len]),hxl,zh (fun u hu=>?_),zh ho7,HFL,zh ((hbw.o.alloc hwz _).grown hg7 (by simp;omega) (fun j hj=>(hown.o.lt _ hj).1))⟩;rcases List.mem_append.1 hu with hu|hu
     ·exact hone.o u hu
     ·exact HXS.o.one u hu
    case measure=>simp[intOf];omega
   ·have hno:∀x,v≠.iface (rowT 1) x:=fun x e=>by
     obtain⟨_,_,h2|⟨t,y,e',h3,h4⟩|⟨k',A',m',c',xs',hk',e',hr',hm',hm2⟩⟩:=hok
     ·rw[h2]at e;cases e
     ·rw[e']at e;injection e with e1 _;exact absurd e1 h4
     ·rw[e']at e;injection e with e1 e2;obtain rfl:=Zgy hk' (by omega) e1;exact hhit ⟨_,_,_,e'⟩
    have HFL:Hid (Flat w B 1 (vs.take (k+1)) (us++[v])):=zh (by rw[HTK.o];exact hfl.o.one hno)
    have hta:∀V,(Instr.typeAssert v 82 221 true).run Tryz.prog V = .ok (.tuple #[.agg #[.slice none 0 0],.bool false]) V:=fun V=>Zm6 1 (by omega) v (by
     obtain⟨_,_,h2|⟨t,y,e',_⟩|⟨k',A',m',c',xs',_,e',_⟩⟩:=hok
     ·exact Or.inl h2
     ·exact Or.inr ⟨_,_,e'⟩
     ·exact Or.inr ⟨_,_,e'⟩) hno V
    have hxl:m+1<=M:=by
     have:=HFEW.o _ HFL.o;rw[List.length_append,hm.o]at this;exact this
    have HV2:Hid (∀u∈[v],u.oneCell'=true):=zh (fun u hu=>by simp at hu;subst hu;exact HV1.o);have hform:v = .nilIface\/∃t x,v = .iface t x:=by
     obtain⟨_,_,h2|⟨t,y,e',_⟩|⟨k',A',m',c',xs',_,e',_⟩⟩:=hok
     ·exact Or.inl h2
     ·exact Or.inr ⟨_,_,e'⟩
     ·exact Or.inr ⟨_,_,e'⟩
    rcases hform with rfl|⟨t,x,rfl⟩
    ·clear hno hhit hok
     go_wp2_with (first
      | (at_builtin;refine Zaa _ rfl _ _ 124 rfl w.heap.size 82 i0 _ 1 16 Tryz.underlying124 hi0 hz0 hz1 hz2 rfl (by omega) (.slice A5 m c5) m _ rfl ((hown.o.alloc _).alloc _) (wr.heap.size+1+1) (some ⟨wr.heap.size+1,0,none⟩) 1 1 [.nilIface] rfl (Zen (wr.alloc _) .nilIface _ (by simp)) (fun h=>by cases h) HV2.o (by unfold maxLen;omega) (by omega) (by simp;omega) ?_;intro v7 w7 ho7 hg7 hv7))
     obtain⟨A7,c7,hr7⟩:=own_shape ho7;subst hr7;go_wp2_with fail;go_roundw
     case rel=>
      refine⟨k+1,m+1,c7,A7,us++[.nilIface],by omega,by go_num,rfl,zh (by rw[List.length_append,hm.o];rfl),hxl,zh (fun u hu=>?_),zh ho7,HFL,zh (((hbw.o.alloc hwz _).alloc (by simp;omega) _).grown hg7 (by simp;omega) (fun j hj=>(hown.o.lt _ hj).1))⟩;rcases List.mem_append.1 hu with hu|hu
      ·exact hone.o u hu
      ·exact HV2.o u hu
     case measure=>simp[intOf];omega
    ·clear hno hhit hok
     go_wp2_with (first
      | (at_builtin;refine Zaa _ rfl _ _ 124 rfl w.heap.size 82 i0 _ 1 16 Tryz.underlying124 hi0 hz0 hz1 hz2 rfl (by omega) (.slice A5 m c5) m _ rfl ((hown.o.alloc _).alloc _) (wr.heap.size+1+1) (some ⟨wr.heap.size+1,0,none⟩) 1 1 [.iface t x] rfl (Zen (wr.alloc _) (.iface t x) _ (by simp)) (fun h=>by cases h) HV2.o (by unfold maxLen;omega) (by omega) (by simp;omega) ?_;intro v7 w7 ho7 hg7 hv7))
     obtain⟨A7,c7,hr7⟩:=own_shape ho7;subst hr7;go_wp2_with fail;go_roundw
     case rel=>
      refine⟨k+1,m+1,c7,A7,us++[.iface t x],by omega,by go_num,rfl,zh (by rw[List.length_append,hm.o];rfl),hxl,zh (fun u hu=>?_),zh ho7,HFL,zh (((hbw.o.alloc hwz _).alloc (by simp;omega) _).grown hg7 (by simp;omega) (fun j hj=>(hown.o.lt _ hj).1))⟩;rcases List.mem_append.1 hu with hu|hu
      ·exact hone.o u hu
      ·exact HV2.o u hu
     case measure=>simp[intOf];omega
  ·obtain rfl:k=n:=by omega
   have HFL:Hid (Flat w B 1 vs us):=zh (by have:=hfl.o;rw[List.take_of_length_le (by rw[HROW.o.len];exact zr _)]at this;exact this);have hmk:k<=m:=by
    have:=(HFL.o.few (by omega) HP.o).2.1;rw[hm.o,HROW.o.len]at this;exact this
   by_cases h1:m=1
   ·subst h1;obtain⟨u,hu⟩:∃u,us = [u]:=List.length_eq_one_iff.1 hm.o;obtain⟨g7,cap,hv7,_,hgl⟩:=hown.o.form (by omega);injection hv7 with hA _ _;subst hA;have e0:wr.cell? ⟨g7,0,none⟩=some u:=by
     have:=hown.o.cells (g:=g7) rfl 0 u (by rw[hu];rfl);rw[at_add,Nat.zero_add]at this;exact this
    have HU:=zh hu;clear hu;go_wp2_with fail;go_ret;exact⟨u,rfl,us,HFL.o,hbw.o,Or.inl HU.o⟩
   ·have h2:¬(m:Int)=1:=by omega
    have HFIN:Hid (RowV wr B A5 m c5 us):=zh (by
     refine⟨RowIn.of_own hown.o,hm.o,fun g' o' e=>?_,fun e=>?_,hone.o⟩
     ·have:=(hown.o.lt g' (by rw[e];rfl)).1;omega
     ·obtain⟨g7,cap,hv7,_⟩:=hown.o.form (by omega);injection hv7 with hA _ _;rw[e]at hA;cases hA)
    go_wp2_with fail;go_ret;refine⟨_,us,rfl,HFL.o,hbw.o,Or.inr ⟨by rw[hm.o];omega,A5,c5,?_,by rw[hm.o];exact HFIN.o⟩⟩;rw[hm.o]
    rfl
end Go.Proofs.YtnpfaajhgghpgaaGreatDoor.Ru
namespace Go.Proofs.YtnpfaajhgghpgaaGreatDoor.Ru
open Go.RowKit Go.Maps Go.Shelf
def InI (v:Int):Prop:=-9223372036854775808<=v/\v<=9223372036854775807
def VarIs (w:World)(n:String):Prop:=∃tp p,w.var? Tryz.prog n=some #[.iface tp p]
def ErrAt (w:World):Prop:=VarIs w "strconv.ErrSyntax"/\VarIs w "strconv.ErrRange"
theorem VarIs.keep {w w':World}{n:String}(h:VarIs w n)(hb:Below w.heap.size w w'):VarIs w' n:=by
 obtain⟨tp,p,h⟩:=h;refine⟨tp,p,?_⟩;unfold World.var? at *;cases hg:Tryz.prog.globalNamed n with
 | none=>simp[hg]at h
 | some g=>
  simp only[hg,Option.bind_some]at h ⊢;have hlt:g<w.heap.size:=by
   rcases Nat.lt_or_ge g w.heap.size with h'|h'
   ·exact h'
   ·rw[Array.getElem?_eq_none h']at h;simp at h
  rw[hb.block g hlt];exact h
theorem ErrAt.keep {w w':World}(h:ErrAt w)(hb:Below w.heap.size w w'):ErrAt w':=⟨h.1.keep hb,h.2.keep hb⟩
def AtoiR (s:ByteArray)(v:Int)(ok:Bool):Prop:=InI v/\(ok=true->Lib.atoiAll s.data.toList = .ok v)/\(ok=false->∀z,Lib.atoiAll s.data.toList≠.ok z)
def AtoiE (s:ByteArray)(e:Ending):Prop:=(∃v,e = .returned (.tuple #[.int .i64 v,.nilIface])/\AtoiR s v true)\/∃v t N,e = .returned (.tuple #[.int .i64 v,.iface t (.pointer (some ⟨N,0,none⟩))])/\AtoiR s v false
theorem Zey (s:ByteArray)(w:World)(hs:s.size<=1000000)(he:ErrAt w):Calls Tryz.prog 152 #[.string s] w fun e w'=>AtoiE s e/\Below w.heap.size w w':=by
 cases h:Lib.atoiAll s.data.toList
 ·rename_i v
  refine Calls.mono (Any.strconv_Atoi_ok Tryz.laysC172 s (by omega) v h w) ?_;rintro e w' ⟨rfl,hw⟩;refine⟨Or.inl ⟨v,rfl,Lib.atoiAll_bounds h,fun _=>h,fun h=>by cases h⟩,?_⟩;rcases hw with rfl|⟨t,rfl⟩
  ·exact Below.refl _ _
  ·exact Lib.bytesWorld_below _ _ _
 ·obtain⟨⟨tp,p,hv⟩,_⟩:=he;refine Calls.mono (Any.strconv_Atoi_syntax_var Tryz.laysC172 s (by omega) h tp p w hv) ?_;rintro e w' ⟨N,rfl,_,_,hb⟩;exact⟨Or.inr ⟨0,_,N,rfl,⟨by decide,by decide⟩,fun h=>(by cases h),fun _ z hz=>by rw[h]at hz;cases hz⟩,hb⟩
 ·obtain⟨_,tp,p,hv⟩:=he;refine Calls.mono (Any.strconv_Atoi_range_var Tryz.laysC172 s (by omega) h tp p w hv) ?_;rintro e w' ⟨N,rfl,_,_,hb⟩;exact⟨Or.inr ⟨_,_,N,rfl,Lib.atoiSat_bounds _,fun h=>(by cases h),fun _ z hz=>by rw[h]at hz;cases hz⟩,hb⟩
abbrev hypOf {A B:Prop} (_:A->B):Prop:=A
def TabAt (w:World):Prop:=hypOf (Any.strconv_Itoa Tryz.laysM171 0 (by decide) (by decide) w)
theorem TabAt.keep {w w':World}(h:TabAt w)(hb:Below w.heap.size w w'):TabAt w':=Lib.tabBelow_of_tabIs h w' hb
theorem Zbx (n:Int)(h0:-9223372036854775808<=n)(h1:n<=9223372036854775807)(w:World)(htab:TabAt w) :
  Calls Tryz.prog 72 #[.int .i64 n] w fun e w'=>e = .returned (.string ⟨(Lib.itoa n).toArray⟩)/\Below w.heap.size w w':=by
 refine Calls.mono (Any.strconv_Itoa Tryz.laysM171 n h0 h1 w htab) ?_;rintro e w' ⟨rfl,k,os,rfl⟩;exact⟨rfl,Lib.below_grow _ w (zr _) k os⟩
theorem Zbm {a:ByteArray}{L:List UInt8}(h:a=⟨L.toArray⟩):(a.toList == L)=true:=by
 rw[Lib.toList_data,h];simp
theorem Zbg {a:ByteArray}{L:List UInt8}(h:a≠⟨L.toArray⟩):(a.toList == L)=false:=by
 rw[beq_eq_false_iff_ne,Lib.toList_data];intro e;exact h (Za5 (by rw[e]))
def isS (b:UInt8):Bool:=b == 58 || b == 60 || b == 62
theorem Zg0 (b:UInt8):([58,60,62]:List UInt8).contains b=isS b:=by
 simp only[isS,List.contains_cons,List.contains_nil,Bool.or_false];rw[Bool.or_assoc]
theorem Zm8 {L p r:List UInt8}{c x:UInt8}{k:Nat}(h:L=p++c::r)(hp:∀b∈p,isS b=false)(hc:isS c=true)(hk:L[k]? = some x)(hx:isS x=true)(hn:∀(j:Nat) b,j<k->L[j]? = some b->isS b=false):L.take k=p/\x=c/\L.drop (k+1)=r:=by
 have hkp:k=p.length:=by
  rcases Nat.lt_trichotomy k p.length with h1|h1|h1
  ·rw[h,List.getElem?_append_left h1]at hk;have:=hp x (List.mem_of_getElem? hk);rw[this]at hx;cases hx
  ·exact h1
  ·have h2:L[p.length]? = some c:=by rw[h,List.getElem?_append_right (zr _)];simp
   rw[hn _ c h1 h2]at hc;cases hc
 subst hkp;subst h;refine⟨by simp,?_,by simp⟩;rw[List.getElem?_append_right (zr _),Nat.sub_self]at hk;simpa using hk.symm
theorem Zki {a:Leaf}(h1:a≠.follows)(h2:a≠.done):∃p c r,(leafT a).data.toList=p++c::r/\(∀b∈p,isS b=false)/\isS c=true/\((∃x,a = .tag x/\p=tagW.data.toList/\c=58/\r=x.data.toList)\/(∃x,a = .maker x/\p=makerW.data.toList/\c=58/\r=x.data.toList)\/∃k less n,a = .num k less n/\p=(whatW k).data.toList/\c=(if less then 60 else 62)/\r=Lib.decDigits n):=by
 cases a with
 | follows=>exact absurd rfl h1
 | done=>exact absurd rfl h2
 | tag x=>exact⟨tagW.data.toList,58,x.data.toList,by simp[leafT,colonW],by decide,by decide,Or.inl ⟨x,rfl,rfl,rfl,rfl⟩⟩
 | maker x=>exact⟨makerW.data.toList,58,x.data.toList,by simp[leafT,colonW],by decide,by decide,Or.inr (Or.inl ⟨x,rfl,rfl,rfl,rfl⟩)⟩
 | num k less n=>
  refine⟨(whatW k).data.toList,if less then 60 else 62,Lib.decDigits n,?_,?_,?_,Or.inr (Or.inr ⟨k,less,n,rfl,rfl,rfl,rfl⟩)⟩
  ·cases less <;> simp[leafT,signW,digW]
  ·rcases Zaw k with ⟨e,_⟩|⟨e,_⟩|⟨e,_⟩|⟨e,_⟩ <;> rw[e] <;> decide
  ·cases less <;> decide
structure CutAt (w what rest:ByteArray) (x:UInt8):Prop where
 all:w.data.toList=what.data.toList++x::rest.data.toList
 free:∀b∈what.data.toList,isS b=false
 sign:isS x=true
theorem CutAt.leaf {w what rest:ByteArray}{x:UInt8}(h:CutAt w what rest x){a:Leaf}(ha:IsLeaf w a):(∃y,a = .tag y/\what=tagW/\x=58/\rest=y)\/(∃y,a = .maker y/\what=makerW/\x=58/\rest=y)\/∃k less n,a = .num k less n/\what=whatW k/\x=(if less then 60 else 62)/\rest=digW n:=by
 have hk:w.data.toList[what.data.toList.length]? = some x:=by rw[h.all,List.getElem?_append_right (zr _)];simp
 have hn:∀(j:Nat) b,j<what.data.toList.length->w.data.toList[j]? = some b->isS b=false:=fun j b hj hb=>by
  rw[h.all,List.getElem?_append_left hj]at hb;exact h.free b (List.mem_of_getElem? hb)
 have h1:a≠.follows:=by
  rintro rfl;have hw:=ha.2;have h2:=h.sign;have:x∈w.data.toList:=List.mem_of_getElem? hk;rw[hw]at this;simp only[leafT,followsW,List.mem_cons,List.not_mem_nil,or_false]at this;rcases this with rfl|rfl|rfl|rfl|rfl|rfl|rfl <;> revert h2 <;> decide
 have h2:a≠.done:=by
  rintro rfl;have hw:=ha.2;have h2:=h.sign;have:x∈w.data.toList:=List.mem_of_getElem? hk;rw[hw]at this;simp only[leafT,doneW,List.mem_cons,List.not_mem_nil,or_false]at this;rcases this with rfl|rfl|rfl|rfl <;> revert h2 <;> decide
 obtain⟨p,c,r,e1,e2,e3,e4⟩:=Zki h1 h2;rw[<-ha.2]at e1;obtain⟨f1,f2,f3⟩:=Zm8 e1 e2 e3 hk h.sign hn;rw[h.all]at f1 f3;simp only[List.take_left']at f1;have f1':what.data.toList=p:=by simpa using f1
 have f3':rest.data.toList=r:=by
  rw[List.drop_append,List.drop_of_length_le (by omega),Nat.add_sub_cancel_left]at f3;simpa using f3
 rcases e4 with ⟨y,rfl,rfl,rfl,rfl⟩|⟨y,rfl,rfl,rfl,rfl⟩|⟨k,less,n,rfl,rfl,rfl,rfl⟩
 ·exact Or.inl ⟨y,rfl,Za5 f1',f2,Za5 f3'⟩
 ·exact Or.inr (Or.inl ⟨y,rfl,Za5 f1',f2,Za5 f3'⟩)
 ·exact Or.inr (Or.inr ⟨k,less,n,rfl,Za5 f1',f2,Za5 (by rw[f3'];simp[digW])⟩)
theorem Zsi {w:ByteArray}(hn:∀(j:Nat) b,w.data.toList[j]? = some b->isS b=false)(h1:w≠followsW)(h2:w≠doneW)(a:Leaf):¬IsLeaf w a:=fun ha=>by
 have ha1:a≠.follows:=by rintro rfl;exact h1 ha.2
 have ha2:a≠.done:=by rintro rfl;exact h2 ha.2
 obtain⟨p,c,r,e1,e2,e3,_⟩:=Zki ha1 ha2;rw[<-ha.2]at e1;have:w.data.toList[p.length]? = some c:=by rw[e1,List.getElem?_append_right (zr _)];simp
 rw[hn _ _ this]at e3;cases e3
def LeafPost (s:ByteArray)(e:Ending):Prop:=(∃a,IsLeaf s a/\e = .returned (.tuple #[leafV a,.bool true]))\/((∀a,¬IsLeaf s a)/\∃v,e = .returned (.tuple #[v,.bool false]))
end Go.Proofs.YtnpfaajhgghpgaaGreatDoor.Ru
