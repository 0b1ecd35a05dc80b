/- A part of the joined base. -/
import Derived.Test.YthdmpcnnbminlaaGreatDoorV11
set_option linter.unusedVariables false
set_option maxHeartbeats 8000000
set_option maxRecDepth 100000
namespace Go.Proofs.YthdmpcnnbminlaaGreatDoor.Ct
open Go.Shelf Go.RowKit Go.Maps
theorem Zsd (rb ab g len cap k:Nat) (t:Int) (s:St) (w:World) (h1:w.cell? ⟨rb,0,none⟩=some (.slice (some ⟨g,0,none⟩) len cap)) (h2:w.cell? ⟨ab,0,none⟩=some (.int .i64 t)) (hk:k<len) (h3:StAt w g (k*9) s) :
  Calls Tryz.prog 74 #[.int .i64 k,.pointer (some ⟨rb,0,none⟩),.pointer (some ⟨ab,0,none⟩)] w fun e w'=>e = .returned (.bool (decide (t<s.tick)))∧∃q,w'=w.drewN q:=by
 obtain⟨e0,_⟩:=h3
 have hk8:(k:Int)<(len:Int):=by omega
 have hk9:(0:Int)≤(k:Int):=by omega
 go_enter Tryz.func74,Tryz.ntmps74
 go_wp2_with fail
 go_quiet (fail)
 go_wp2_with fail
 go_ret
 exact⟨rfl,_,rfl⟩
theorem Zle (rb ab g n cap:Nat) (t:Int) (r:List St) (w:World) (hn:r.length=n) (h1:w.cell? ⟨rb,0,none⟩=some (.slice (some ⟨g,0,none⟩) n cap)) (h2:w.cell? ⟨ab,0,none⟩=some (.int .i64 t)) (h3:∀i s,r[i]? = some s→StAt w g (i*9) s) (hr:r.Pairwise fun a b=>a.tick≤b.tick) (hb:n≤1000000) :
  Calls Tryz.prog 73 #[.int .i64 n,.func (Fn.func 74) #[] #[.pointer (some ⟨rb,0,none⟩),.pointer (some ⟨ab,0,none⟩)]] w fun e w'=>∃k:Nat,e = .returned (.int .i64 k)∧k≤n∧uptoP r t=r.take k∧∃q,w'=w.drewN q:=by
 have HN:=zh hn
 have H3:=zh h3
 have HR:=zh hr
 have H1:=zh h1
 have H2:=zh h2
 clear h3 hr hn h1 h2
 go_enter Tryz.func73,Tryz.ntmps73
 go_wp2_with fail
 go_loopw [5,6] (fun i j wr=>∃(a b q:Nat),a≤b∧b≤n∧i = .int .i64 a∧j = .int .i64 b∧Hid (∀k s,k<a→r[k]? = some s→s.tick≤t)∧Hid (∀k s,b≤k→r[k]? = some s→t<s.tick)∧wr=w.drewN q) (fun i j _=>(intOf j).toNat - (intOf i).toNat)
 case atStart=>exact⟨0,n,0,Nat.zero_le _,zr _,rfl,rfl,zh (fun k s hk=>by omega),zh (fun k s hk hs=>by have:=(List.getElem?_eq_some_iff.1 hs).1;rw[HN.o]at this;omega),rfl⟩
 case round=>
  obtain⟨a,b,q,hab,hbn,rfl,rfl,hlo,hhi,rfl⟩:=hrel
  by_cases hlt:a<b
  ·obtain⟨m,hm⟩:∃m:Nat,m=(a+b) / 2:=⟨_,rfl⟩
   obtain⟨s,hs⟩:∃s,r[m]? = some s:=⟨r[m]'(by rw[HN.o];omega),List.getElem?_eq_getElem _⟩
   have HA:=zh (Zsd rb ab g n cap m t s (w.drewN q) H1.o H2.o (by omega) (H3.o m s hs))
   have HM2:Hid (((a:Int)+(b:Int)) / 2=(m:Int)):=zh (by omega)
   have HM:=zh hm
   have hmb:m<1000000:=by omega
   clear hm
   have HS:=zh hs
   clear hs
   go_wp2_with fail
   rw[HM2.o]
   refine HA.o.mono ?_
   rintro e w1 ⟨rfl,q1,rfl⟩
   clear HA
   by_cases hgt:t<s.tick
   ·have hd:decide (t<s.tick)=true:=decide_eq_true hgt
    have HGT:=zh hgt
    clear hgt
    go_wp2_with fail
    have hm:=HM.o
    have hgt:=HGT.o
    go_roundw
    case rel=>
     refine⟨a,m,q+q1,by omega,by omega,rfl,rfl,hlo,zh (fun k s' hk hs'=>?_),by first|rfl|simp⟩
     rcases Nat.lt_or_eq_of_le hk with h|h
     ·have:=List.pairwise_iff_getElem.1 HR.o m k (List.getElem?_eq_some_iff.1 HS.o).1 (List.getElem?_eq_some_iff.1 hs').1 h
      rw[(List.getElem?_eq_some_iff.1 HS.o).2,(List.getElem?_eq_some_iff.1 hs').2]at this
      omega
     ·subst h
      rw[HS.o]at hs'
      cases hs'
      exact hgt
    case measure=>simp[intOf];omega
   ·have hd:decide (t<s.tick)=false:=decide_eq_false hgt
    have HGT:=zh hgt
    clear hgt
    go_wp2_with fail
    have hm:=HM.o
    have hgt:=HGT.o
    go_roundw
    case rel=>
     refine⟨m+1,b,q+q1,by omega,by omega,by go_num,rfl,zh (fun k s' hk hs'=>?_),hhi,by first|rfl|simp⟩
     rcases Nat.lt_or_eq_of_le (Nat.le_of_lt_succ hk) with h|h
     ·have:=List.pairwise_iff_getElem.1 HR.o k m (List.getElem?_eq_some_iff.1 hs').1 (List.getElem?_eq_some_iff.1 HS.o).1 h
      rw[(List.getElem?_eq_some_iff.1 HS.o).2,(List.getElem?_eq_some_iff.1 hs').2]at this
      omega
     ·subst h
      rw[HS.o]at hs'
      cases hs'
      omega
    case measure=>simp[intOf];omega
  ·obtain rfl:a=b:=by omega
   go_wp2_with fail
   go_ret
   exact⟨a,rfl,hbn,Zrx (by rw[HN.o];exact hbn) hlo.o (fun s hs=>hhi.o a s (zr _) hs),_,rfl⟩
theorem Zi1 (f:Value) (w:World):Calls Tryz.prog 73 #[.int .i64 0,f] w fun e w'=>e = .returned (.int .i64 0)∧w'=w:=by
 go_enter Tryz.func73,Tryz.ntmps73
 go_wp2_with fail
 go_loopw [5,6] (fun i j wr=>i = .int .i64 0∧j = .int .i64 0∧wr=w) (fun _ _ _=>0)
 case atStart=>exact⟨rfl,rfl,rfl⟩
 case round=>
  obtain⟨rfl,rfl,rfl⟩:=hrel
  go_wp2_with fail
  go_ret
  exact⟨rfl,rfl⟩
def toldP (x:Option It):Value:=.tuple #[itA (x.getD it0),.bool x.isSome]
theorem Zj9 (cb:Nat) (F:Nat→Prop) (es:List Ev) (n:ByteArray) (t:Int) (w:World) (h:CatAt w cb F es) (hn:n.size≤1000000) (hb:es.length≤1000000) :
  Calls Tryz.prog 32 #[.pointer (some ⟨cb,0,none⟩),.string n,.int .i64 t] w fun e w'=>e = .returned (toldP (atP es n t))∧Below w.heap.size w w':=by
 have hmf:∀(fn:Fn) (first cap:Array Value) (w:World),(Instr.makeFunc fn first cap).run Tryz.prog w = .ok (.func fn first cap) w:=fun _ _ _ _=>rfl
 obtain⟨mb,G,last,h⟩:=h
 obtain⟨w1,hw1⟩:∃w1,w.alloc (.cells #[.int .i64 t] 3)=w1:=⟨_,rfl⟩
 obtain⟨w2,hw2⟩:∃w2,w1.alloc (.cells #[.string ⟨#[]⟩,.string ⟨#[]⟩,.string ⟨#[]⟩,.int .i64 0,.int .i64 0,.int .i64 0,.bool false] 36)=w2:=⟨_,rfl⟩
 have hB2:Below w.heap.size w w2:=by rw[←hw2,←hw1];exact ((Below.refl _ _).alloc (zr _) _).alloc (by simp) _
 have z1:Hid (w1.heap.size=w.heap.size+1):=zh (by rw[←hw1];simp)
 have z2:Hid (w2.heap.size=w.heap.size+2):=zh (by rw[←hw2,World.size_alloc,z1.o])
 have h2:=h.kept (below_kept (S:=fun _=>False) hB2 (zr _)) (fun _ _ h=>h)
 have hlk:=h2.map.look (string_keyed Tryz.underlying9) Tryz.underlying128 (zeroSl w2) rfl (WideMaps.keyOf_string_mk Tryz.underlying9 (s:=n) (by unfold maxLen;omega))
 rw[mapG_at]at hlk
 have c9:w2.cell? ⟨cb,9,none⟩=some (.map (some mb)):=h2.blk.cell 9
 have ba:Blk w2 w.heap.size 3 #[.int .i64 t]:=by rw[←hw2,←hw1];exact (Blk.new _ _ _).alloc _
 have bi:Blk w2 w1.heap.size 36 #[.string ⟨#[]⟩,.string ⟨#[]⟩,.string ⟨#[]⟩,.int .i64 0,.int .i64 0,.int .i64 0,.bool false]:=by rw[←hw2];exact Blk.new _ _ _
 have HPS:Hid (∀(w':World) x0 x1 x2 x3 x4 x5 x6,w2.heap.size<w'.heap.size→Below w.heap.size w w'→Below w.heap.size w (((((((w'.setCell ⟨w1.heap.size,0,none⟩ x0).setCell ⟨w1.heap.size,1,none⟩ x1).setCell ⟨w1.heap.size,2,none⟩ x2).setCell ⟨w1.heap.size,3,none⟩ x3).setCell ⟨w1.heap.size,4,none⟩ x4).setCell ⟨w1.heap.size,5,none⟩ x5).setCell ⟨w1.heap.size,6,none⟩ x6)):=zh (fun w' x0 x1 x2 x3 x4 x5 x6 _ h=>by
  have hq:w.heap.size≤w1.heap.size:=by rw[z1.o];omega
  exact ((((((h.setCell (p:=⟨w1.heap.size,0,none⟩) hq _).setCell (p:=⟨w1.heap.size,1,none⟩) hq _).setCell (p:=⟨w1.heap.size,2,none⟩) hq _).setCell (p:=⟨w1.heap.size,3,none⟩) hq _).setCell (p:=⟨w1.heap.size,4,none⟩) hq _).setCell (p:=⟨w1.heap.size,5,none⟩) hq _).setCell (p:=⟨w1.heap.size,6,none⟩) hq _)
 by_cases hr:rowOf es n = []
 ·rw[h.none_ n hr]at hlk
  dsimp only[Option.getD_none]at hlk
  have HP:Hid (toldP (atP es n t) = .tuple #[.agg #[.string ⟨#[]⟩,.string ⟨#[]⟩,.string ⟨#[]⟩,.int .i64 0,.int .i64 0,.int .i64 0,.bool false],.bool false]):=zh (by unfold atP;rw[hr];rfl)
  have HB2:=zh hB2
  have HBI:=zh bi
  clear h h2 hr hB2 bi ba
  go_enter Tryz.func32,Tryz.ntmps32
  go_wp2_with fail
  obtain⟨w3,hw3⟩:∃w3,w2.alloc (.cells #[.slice none 0 0] 127)=w3:=⟨_,rfl⟩
  rw[hw3]
  have bi3:Blk w3 w1.heap.size 36 #[.string ⟨#[]⟩,.string ⟨#[]⟩,.string ⟨#[]⟩,.int .i64 0,.int .i64 0,.int .i64 0,.bool false]:=by rw[←hw3];exact HBI.o.alloc _
  have br3:Blk w3 w2.heap.size 127 #[.slice none 0 0]:=by rw[←hw3];exact Blk.new _ _ _
  have r0:w3.cell? ⟨w2.heap.size,0,none⟩=some (.slice none 0 0):=br3.cell 0
  have i0:w3.cell? ⟨w1.heap.size,0,none⟩=some (.string ⟨#[]⟩):=bi3.cell 0
  have i1:w3.cell? ⟨w1.heap.size,1,none⟩=some (.string ⟨#[]⟩):=bi3.cell 1
  have i2:w3.cell? ⟨w1.heap.size,2,none⟩=some (.string ⟨#[]⟩):=bi3.cell 2
  have i3:w3.cell? ⟨w1.heap.size,3,none⟩=some (.int .i64 0):=bi3.cell 3
  have i4:w3.cell? ⟨w1.heap.size,4,none⟩=some (.int .i64 0):=bi3.cell 4
  have i5:w3.cell? ⟨w1.heap.size,5,none⟩=some (.int .i64 0):=bi3.cell 5
  have i6:w3.cell? ⟨w1.heap.size,6,none⟩=some (.bool false):=bi3.cell 6
  have f0:w3.frozen? ⟨w1.heap.size,0,none⟩=false:=bi3.frozen 0
  have f1:w3.frozen? ⟨w1.heap.size,1,none⟩=false:=bi3.frozen 1
  have f2:w3.frozen? ⟨w1.heap.size,2,none⟩=false:=bi3.frozen 2
  have f3:w3.frozen? ⟨w1.heap.size,3,none⟩=false:=bi3.frozen 3
  have f4:w3.frozen? ⟨w1.heap.size,4,none⟩=false:=bi3.frozen 4
  have f5:w3.frozen? ⟨w1.heap.size,5,none⟩=false:=bi3.frozen 5
  have f6:w3.frozen? ⟨w1.heap.size,6,none⟩=false:=bi3.frozen 6
  have HB3:Hid (Below w.heap.size w w3):=zh (by rw[←hw3];exact HB2.o.alloc HB2.o.size _)
  have HZ3:Hid (w2.heap.size<w3.heap.size):=zh (by rw[←hw3];simp)
  clear bi3 br3 hw3
  refine (Zi1 _ _).mono ?_
  rintro e w4 ⟨rfl,rfl⟩
  go_wp2_with fail
  refine bodyPost_ret (v:=.tuple #[.agg #[.string ⟨#[]⟩,.string ⟨#[]⟩,.string ⟨#[]⟩,.int .i64 0,.int .i64 0,.int .i64 0,.bool false],.bool false]) (by simp[results,Tryz.results32,go_sem,i0,i1,i2,i3,i4,i5,i6]) rfl ⟨?_,?_⟩
  ·rw[HP.o]
  ·exact HPS.o _ _ _ _ _ _ _ _ HZ3.o HB3.o
 ·obtain⟨g,cap,hG,hown,hF,_,_⟩:=h2.some_ n hr
  rw[hG]at hlk
  dsimp only[Option.getD_some]at hlk
  have HB2:=zh hB2
  have HBI:=zh bi
  have HBA:=zh ba
  have HST:=zh (Zrh hown)
  have HRS:=zh (h.rise.row n)
  have hrl:=Zj1 es n
  have hgl:g<w2.heap.size:=h2.lt g hF
  have HAT:Hid (atP es n t=(uptoP (rowOf es n) t).getLast?.map (·.item)):=zh rfl
  generalize rowOf es n=r at *
  obtain⟨N,hN⟩:∃N,r.length=N:=⟨_,rfl⟩
  rw[hN]at hlk hrl
  have HN:=zh hN
  clear h h2 hr hB2 bi ba hown hN hG hF
  go_enter Tryz.func32,Tryz.ntmps32
  go_wp2_with fail
  obtain⟨w3,hw3⟩:∃w3,w2.alloc (.cells #[.slice (some ⟨g,0,none⟩) N cap] 127)=w3:=⟨_,rfl⟩
  rw[hw3]
  have bi3:Blk w3 w1.heap.size 36 #[.string ⟨#[]⟩,.string ⟨#[]⟩,.string ⟨#[]⟩,.int .i64 0,.int .i64 0,.int .i64 0,.bool false]:=by rw[←hw3];exact HBI.o.alloc _
  have br3:Blk w3 w2.heap.size 127 #[.slice (some ⟨g,0,none⟩) N cap]:=by rw[←hw3];exact Blk.new _ _ _
  have r0:w3.cell? ⟨w2.heap.size,0,none⟩=some (.slice (some ⟨g,0,none⟩) N cap):=br3.cell 0
  have i0:w3.cell? ⟨w1.heap.size,0,none⟩=some (.string ⟨#[]⟩):=bi3.cell 0
  have i1:w3.cell? ⟨w1.heap.size,1,none⟩=some (.string ⟨#[]⟩):=bi3.cell 1
  have i2:w3.cell? ⟨w1.heap.size,2,none⟩=some (.string ⟨#[]⟩):=bi3.cell 2
  have i3:w3.cell? ⟨w1.heap.size,3,none⟩=some (.int .i64 0):=bi3.cell 3
  have i4:w3.cell? ⟨w1.heap.size,4,none⟩=some (.int .i64 0):=bi3.cell 4
  have i5:w3.cell? ⟨w1.heap.size,5,none⟩=some (.int .i64 0):=bi3.cell 5
  have i6:w3.cell? ⟨w1.heap.size,6,none⟩=some (.bool false):=bi3.cell 6
  have f0:w3.frozen? ⟨w1.heap.size,0,none⟩=false:=bi3.frozen 0
  have f1:w3.frozen? ⟨w1.heap.size,1,none⟩=false:=bi3.frozen 1
  have f2:w3.frozen? ⟨w1.heap.size,2,none⟩=false:=bi3.frozen 2
  have f3:w3.frozen? ⟨w1.heap.size,3,none⟩=false:=bi3.frozen 3
  have f4:w3.frozen? ⟨w1.heap.size,4,none⟩=false:=bi3.frozen 4
  have f5:w3.frozen? ⟨w1.heap.size,5,none⟩=false:=bi3.frozen 5
  have f6:w3.frozen? ⟨w1.heap.size,6,none⟩=false:=bi3.frozen 6
  have HB3:Hid (Below w.heap.size w w3):=zh (by rw[←hw3];exact HB2.o.alloc HB2.o.size _)
  have HZ3:Hid (w2.heap.size<w3.heap.size):=zh (by rw[←hw3];simp)
  have ba3:w3.cell? ⟨w.heap.size,0,none⟩=some (.int .i64 t):=by rw[←hw3];exact (HBA.o.alloc _).cell 0
  have HST3:Hid (∀i x,r[i]? = some x→StAt w3 g (i*9) x):=zh (fun i x hx=>by rw[←hw3];exact (HST.o i x hx).keep (fun j=>World.cell?_alloc_lt _ _ ⟨g,j,none⟩ hgl))
  have HS:=zh (Zle w2.heap.size w.heap.size g N cap t r w3 HN.o r0 ba3 HST3.o HRS.o (by omega))
  clear bi3 br3 hw3 ba3
  refine HS.o.mono ?_
  rintro e w4 ⟨k,rfl,hk,hup,q,rfl⟩
  clear HS HST HRS HBA
  rcases k with _|k
  ·have HP:Hid (toldP (atP es n t) = .tuple #[.agg #[.string ⟨#[]⟩,.string ⟨#[]⟩,.string ⟨#[]⟩,.int .i64 0,.int .i64 0,.int .i64 0,.bool false],.bool false]):=zh (by rw[HAT.o,hup];rfl)
   clear hup
   go_wp2_with fail
   refine bodyPost_ret (v:=.tuple #[.agg #[.string ⟨#[]⟩,.string ⟨#[]⟩,.string ⟨#[]⟩,.int .i64 0,.int .i64 0,.int .i64 0,.bool false],.bool false]) (by simp[results,Tryz.results32,go_sem,i0,i1,i2,i3,i4,i5,i6]) rfl ⟨?_,?_⟩
   ·rw[HP.o]
   ·exact HPS.o _ _ _ _ _ _ _ _ HZ3.o (below_drewN HB3.o q)
  ·obtain⟨s,hs⟩:∃s,r[k]? = some s:=⟨r[k]'(by rw[HN.o];omega),List.getElem?_eq_getElem _⟩
   obtain⟨e0,e1,e2,e3,e4,e5,e6,e7,e8⟩:=HST3.o k s hs
   have HP:Hid (toldP (atP es n t) = .tuple #[.agg #[.string s.item.name,.string s.item.maker,.string s.item.tags,.int .i64 s.item.stock,.int .i64 s.item.price,.int .i64 s.item.born,.bool s.item.listed],.bool true]):=zh (by
    have:(r.take (k+1)).getLast? = some s:=by rw[List.take_add_one,hs];simp
    rw[HAT.o,hup,this];rfl)
   have hk1:(0:Int)≤((k+1:Nat):Int) - 1:=by omega
   have hk2:((k+1:Nat):Int) - 1<(N:Int):=by omega
   have hk3:(((k+1:Nat):Int) - 1).toNat=k:=by omega
   have hk4:((((k+1:Nat):Int)) == 0)=false:=by rw[beq_eq_false_iff_ne];omega
   clear hup hs HST3 HAT
   go_wp2_with fail
   refine bodyPost_ret (v:=.tuple #[.agg #[.string s.item.name,.string s.item.maker,.string s.item.tags,.int .i64 s.item.stock,.int .i64 s.item.price,.int .i64 s.item.born,.bool s.item.listed],.bool true]) (by simp[results,Tryz.results32,go_sem,i0,i1,i2,i3,i4,i5,i6]) rfl ⟨?_,?_⟩
   ·rw[HP.o]
   ·exact HPS.o _ _ _ _ _ _ _ _ HZ3.o (below_drewN HB3.o q)
end Go.Proofs.YthdmpcnnbminlaaGreatDoor.Ct
namespace Go.Proofs.YthdmpcnnbminlaaGreatDoor.Ct
open Go.Shelf Go.RowKit Go.Maps
theorem CatIn.more {w w':World} {cb mb:Nat} {G:ByteArray→Option Value} {last x:Ev} {F:Nat→Prop} {es:List Ev} {A A':Option Addr} {N cap c':Nat} (h:CatIn w cb mb G last F es) (hC:Blk w' cb 130 (catCells true x mb))
  (hm:MapIs Tryz.prog 9 okSl w' mb (es.length+1) (upd (mapG G) (.string x.item.data.toList) (.slice A' (N+1) c'))) (hk:Kept (fun q=>q=cb∨q=mb∨(Value.slice A N cap).ownBlock=some q) w w') (hG:(G x.item).getD (.slice none 0 0) = .slice A N cap) (hN:(rowOf es x.item).length=N)
  (ho:w'.ownsRow 0 133 9 (.slice A' (N+1) c') (N+1) ((rowOf es x.item).flatMap stC++stC (stepSt ((rowOf es x.item).getLast?.getD (st0 x.item)) x))) (hv:(Value.slice A' (N+1) c').ownBlock=(Value.slice A N cap).ownBlock∨∃g,(Value.slice A' (N+1) c').ownBlock=some g∧w.heap.size≤g) (ht:takesB es x=true) (hmc:mb≠cb) (hsx:EvSh x) :
  CatIn w' cb mb (updG G x.item (.slice A' (N+1) c')) x (fun q=>F q∨(Value.slice A' (N+1) c').ownBlock=some q) (es++[x]):=by
 have hcl:=h.lt _ h.fc
 have hml:=h.lt _ h.fm
 have hrow:rowOf (es++[x]) x.item=rowOf es x.item++[stepSt ((rowOf es x.item).getLast?.getD (st0 x.item)) x]:=by rw[Zc3,if_pos rfl];rfl
 have hrow2:∀n,n≠x.item→rowOf (es++[x]) n=rowOf es n:=fun n hn=>by rw[Zc3,if_neg (fun e=>hn e.symm)]
 have hold:∀g,(Value.slice A N cap).ownBlock=some g→F g∧g≠cb∧g≠mb∧G x.item=some (.slice A N cap):=by
  intro g hg
  by_cases hr:rowOf es x.item = []
  ·rw[h.none_ _ hr]at hG
   cases hG
   cases hg
  ·obtain⟨g',cap',e1,_,e2,e3,e4⟩:=h.some_ _ hr
   rw[e1]at hG
   have e5:Value.slice (some ⟨g',0,none⟩) (rowOf es x.item).length cap' = .slice A N cap:=hG
   rw[←e5]at hg
   cases hg
   exact⟨e2,e3,e4,by rw[e1,e5]⟩
 obtain⟨gn,cn,hform,_,hlt⟩:=ho.form (Nat.succ_pos _)
 have hgn:(Value.slice A' (N+1) c').ownBlock=some gn:=by rw[hform];rfl
 have hne:gn≠cb∧gn≠mb:=by
  rcases hv with hv|⟨g,hv,hg⟩
  ·rw[hgn]at hv
   exact⟨(hold gn hv.symm).2.1,(hold gn hv.symm).2.2.1⟩
  ·rw[hgn]at hv
   cases hv
   exact⟨by omega,by omega⟩
 refine⟨?_,?_,?_,Or.inl h.fc,Or.inl h.fm,?_,?_,?_,?_,h.rise.snoc ht,?_,?_⟩
 ·have:(!(es++[x]).isEmpty)=true:=by simp
  rw[this];exact hC
 ·intro l hl
  rw[List.getLast?_concat]at hl
  cases hl;rfl
 ·have:=hm.congr (mapG_upd G x.item _)
  rw[List.length_append]
  exact this
 ·rintro q (hq|hq)
  ·exact Nat.lt_of_lt_of_le (h.lt q hq) hk.size
  ·exact (ho.lt _ hq).2
 ·intro n hn
  by_cases e:n=x.item
  ·subst e;rw[hrow]at hn;simp at hn
  ·rw[hrow2 n e]at hn
   unfold updG
   rw[if_neg e]
   exact h.none_ n hn
 ·intro n hn
  by_cases e:n=x.item
  ·subst e
   rw[hrow]
   have hl:(rowOf es x.item++[stepSt ((rowOf es x.item).getLast?.getD (st0 x.item)) x]).length=N+1:=by simp[hN]
   rw[hl,List.flatMap_append]
   refine⟨gn,cn,?_,?_,Or.inr hgn,hne.1,hne.2⟩
   ·unfold updG;rw[if_pos rfl,hform]
   ·rw[←hform]
    have:[stepSt ((rowOf es x.item).getLast?.getD (st0 x.item)) x].flatMap stC=stC (stepSt ((rowOf es x.item).getLast?.getD (st0 x.item)) x):=by simp
    rw[this]
    exact ho
  ·rw[hrow2 n e]at hn ⊢
   obtain⟨g,cap',e1,e2,e3,e4,e5⟩:=h.some_ n hn
   refine⟨g,cap',?_,owns_kept e2 hk (fun g' hg=>?_),Or.inl e3,e4,e5⟩
   ·unfold updG;rw[if_neg e];exact e1
   ·cases hg
    rintro (hq|hq|hq)
    ·exact e4 hq
    ·exact e5 hq
    ·exact h.apart n x.item _ _ e e1 (hold g hq).2.2.2 hq.symm
 ·intro n n' v v' hnn hgv hgv'
  unfold updG at hgv hgv'
  have key:∀m u,m≠x.item→G m=some u→u.ownBlock≠(Value.slice A' (N+1) c').ownBlock:=by
   intro m u hm hu he
   by_cases hr:rowOf es m = []
   ·rw[h.none_ _ hr]at hu;cases hu
   ·obtain⟨g,cap',e1,e2,e3,e4,e5⟩:=h.some_ m hr
    rw[e1]at hu
    cases hu
    rw[hgn]at he
    have hgg:g=gn:=Option.some.inj (show some g=some gn from he)
    rcases hv with hv|⟨g2,hv,hg2⟩
    ·rw[hgn]at hv
     exact h.apart m x.item _ _ hm e1 (hold gn hv.symm).2.2.2 (he.trans hv)
    ·rw[hgn]at hv
     have h2:gn=g2:=Option.some.inj hv
     have:=h.lt _ e3
     omega
  by_cases e:n=x.item
  ·rw[if_pos e]at hgv
   cases hgv
   rw[if_neg (fun e'=>hnn (e.trans e'.symm))]at hgv'
   exact (key n' v' (fun e'=>hnn (e.trans e'.symm)) hgv').symm
  ·rw[if_neg e]at hgv
   by_cases e':n'=x.item
   ·rw[if_pos e']at hgv'
    cases hgv'
    exact key n v e hgv
   ·rw[if_neg e']at hgv'
    exact h.apart n n' v v' hnn hgv hgv'
 ·intro e he
  rcases List.mem_append.1 he with he|he
  ·exact h.may e he
  ·obtain rfl:e=x:=by simpa using he
   unfold takesB at ht
   rw[Bool.and_eq_true]at ht
   exact ht.1
 ·intro e he
  rcases List.mem_append.1 he with he|he
  ·exact h.sh e he
  ·obtain rfl:e=x:=by simpa using he
   exact hsx
end Go.Proofs.YthdmpcnnbminlaaGreatDoor.Ct
