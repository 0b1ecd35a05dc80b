/- A part of the joined base. -/
import Derived.Test.YthdmpcnnbminlaaGreatDoorV19
set_option linter.unusedVariables false
set_option maxHeartbeats 8000000
set_option maxRecDepth 100000
namespace Go.Proofs.YthdmpcnnbminlaaGreatDoor.Ru
open Go.RowKit Go.Maps Go.Shelf
theorem Zdv {w:World} {B N:Nat} {v:Value} (h:Okv w B N v):v = .nilIface∨∃t x,v = .iface t x:=by
 obtain⟨_,_,h2|⟨t,y,e',_⟩|⟨k',A',m',c',xs',_,e',_⟩⟩:=h
 ·exact Or.inl h2
 ·exact Or.inr ⟨_,_,e'⟩
 ·exact Or.inr ⟨_,_,e'⟩
theorem Zkk {w w':World} {base:Nat} {e:TypeId} {size:Nat} {v:Value} {n:Nat} {xs:List Value} (h:w.ownsRow base e size v n xs) {S:Nat→Prop} (k:Kept S w w') (hS:∀i,base≤i→¬S i):w'.ownsRow base e size v n xs:=by
 refine⟨h.1,?_⟩
 rcases h.2 with hn|⟨g,cap,cur,hv,hb,hg,rest⟩
 ·exact .inl hn
 ·exact .inr ⟨g,cap,cur,hv,hb,(k.block g (Array.getElem?_eq_some_iff.1 hg).1 (hS g hb)).trans hg,rest⟩
theorem RowV.low {w:World} {B B' m c:Nat} {A:Option Addr} {xs:List Value} (h:RowV w B A m c xs) (hB:B'≤B):RowV w B' A m c xs:=⟨h.row,h.len,fun g o e=>Nat.le_trans hB (h.far g o e),h.nc,h.one⟩
theorem NdAt.low {w:World} {B B':Nat} {n:Nd} {v:Value} (h:NdAt w B n v) (hB:B'≤B):NdAt w B' n v:=by
 induction h with
 | atom a=>exact .atom a
 | no h ih=>exact .no ih
 | row hr hl h ih=>exact .row (hr.low hB) hl ih
theorem Okv.low {w:World} {B B' N:Nat} {v:Value} (h:Okv w B N v) (hB:B'≤B):Okv w B' N v:=by
 obtain⟨h0,h1,h2|h2|⟨k,A,m,c,xs,hk,e,hr,hm⟩⟩:=h
 ·exact⟨h0,h1,Or.inl h2⟩
 ·exact⟨h0,h1,Or.inr (Or.inl h2)⟩
 ·exact⟨h0,h1,Or.inr (Or.inr ⟨k,A,m,c,xs,hk,e,hr.low hB,hm⟩)⟩
theorem PsAt.lower {w w':World} {pb L en d at_:Nat} {ts:List Tk} {bad:Bool} (h:PsAt w pb L ts en d bad at_) (hs:w.heap.size≤w'.heap.size) (hb:∀i,i<w.heap.size→(i=pb∨i<L)→w'.heap[i]? = w.heap[i]?):PsAt w' pb L ts en d bad at_:=by
 obtain⟨A,n,c,h⟩:=h
 refine⟨A,n,c,(hb pb h.blk.lt (Or.inl rfl)).trans h.blk,⟨h.row.1,?_⟩,h.len,h.cap,h.far⟩
 rcases h.row.2 with h0|⟨b,off,e,hbl,hc⟩
 ·exact Or.inl h0
 ·refine Or.inr ⟨b,off,e,by omega,fun j u hu=>?_⟩
  exact (World.cell?_of_block (hb b hbl (Or.inr (h.far b off e).2))).trans (hc j u hu)
structure RowIs (k B pb L en d at_:Nat) (g:Option Nat) (ts:List Tk) (w w':World) (vs:List Value) (M:Nat) (ok:Bool) (ts1:List Tk) (ms:List Nd) (at1:Nat):Prop where
 row:RowSt k d (tx ts) ok (tx ts1) ms
 less:ts1.length≤ts.length
 drop:∃j,ts1=ts.drop j
 few:M+ts1.length=1+ts.length
 ps:PsAt w' pb L ts1 en d (!ok) at1
 at1:at1=if ok then at_ else place ts1 en
 kept:Kept (fun i=>i=pb) w w'
 one:1≤vs.length
 own:∀j,g=some j→w.heap.size≤j
 mem:∀W:World,w'.heap.size≤W.heap.size→(∀i,i<w'.heap.size→B≤i→some i≠g→W.heap[i]? = w'.heap[i]?)→PartsOk W B vs M∧(ok=true→ms.length=vs.length∧∀(i:Nat) n v,ms[i]? = some n→vs[i]? = some v→NdAt W B n v)
theorem RowIs.parts {k B pb L en d at_:Nat} {g:Option Nat} {ts:List Tk} {w w':World} {vs:List Value} {M:Nat} {ok:Bool} {ts1:List Tk} {ms:List Nd} {at1:Nat} (h:RowIs k B pb L en d at_ g ts w w' vs M ok ts1 ms at1):PartsOk w' B vs M:=(h.mem w' (zr _) (fun _ _ _ _=>rfl)).1
theorem RowIs.nd {k B pb L en d at_:Nat} {g:Option Nat} {ts:List Tk} {w w':World} {vs:List Value} {M:Nat} {ok:Bool} {ts1:List Tk} {ms:List Nd} {at1:Nat} (h:RowIs k B pb L en d at_ g ts w w' vs M ok ts1 ms at1):ok=true→ms.length=vs.length∧∀(i:Nat) n v,ms[i]? = some n→vs[i]? = some v→NdAt w' B n v:=(h.mem w' (zr _) (fun _ _ _ _=>rfl)).2
theorem RowIs.start {k B pb L en d at_:Nat} {g:Option Nat} {ts:List Tk} {w w':World} {v:Value} {ok:Bool} {ts1:List Tk} {ns:List Nd} {at1:Nat} (hk:k<2) (hg:∀j,g=some j→w'.heap.size≤j) (h:ParIs (k+1) B pb L en d at_ ts w w' v ok ts1 ns at1):RowIs k B pb L en d at_ g ts w w' [v] (1+ts.length - ts1.length) ok ts1 [nodeOf (k+1) ns] at1:=by
 obtain⟨i1,i2,i3,i4,i5,i6,i7,i8⟩:=h
 refine⟨RowSt.start hk i1,i2,i3,by omega,i5,i6,i8,zr _,fun j hj=>Nat.le_trans i8.size (hg j hj),fun W hs hb=>?_⟩
 have hb':∀i,i<w'.heap.size→B≤i→W.heap[i]? = w'.heap[i]?:=fun i hi hB=>hb i hi hB (fun e=>by have:=hg i e.symm;omega)
 refine⟨?_,fun ho=>⟨rfl,fun i n u hn hu=>?_⟩⟩
 ·have:=PartsOk.snoc .nil (i4.keep hs hb')
  rw[Nat.zero_add]at this
  exact this
 ·cases i with
  | zero=>simp at hn hu;subst hn hu;exact (i7 ho).keep hs hb'
  | succ i=>simp at hn
theorem RowIs.below {k B pb L en d at_:Nat} {g:Option Nat} {ts:List Tk} {w w' w2:World} {vs:List Value} {M:Nat} {ok:Bool} {ts1:List Tk} {ms:List Nd} {at1:Nat} (h:RowIs k B pb L en d at_ g ts w w' vs M ok ts1 ms at1) (hb:Below w'.heap.size w' w2):RowIs k B pb L en d at_ g ts w w2 vs M ok ts1 ms at1:=
 ⟨h.row,h.less,h.drop,h.few,h.ps.below hb,h.at1,h.kept.below hb h.kept.size,h.one,h.own,fun W hs hW=>h.mem W (Nat.le_trans hb.size hs) (fun i hi hB hg=>(hW i (Nat.lt_of_lt_of_le hi hb.size) hB hg).trans (hb.block i hi))⟩
theorem RowIs.next {k B B1 pb L en d at_:Nat} {g g7:Option Nat} {ts:List Tk} {w w1 w2 w7:World} {o:Obj} {vs:List Value} {M:Nat} {t:Tk} {r:List Tk} {ms:List Nd} {at1:Nat} (hk:k<2) (hpb:pb<B) (hLB:L≤B) (hBw:B≤w.heap.size) (h:RowIs k B pb L en d at_ g ts w w1 vs M true (t::r) ms at1) (hw:hd (tx (t::r))=wordOf k) (hg1:∀j,g=some j→j<w1.heap.size) (hB1:w1.heap.size≤B1) {v:Value} {ok:Bool} {ts1:List Tk} {ns:List Nd} {at2:Nat} {w0:World} (hk0:Kept (fun i=>i=pb) w1 w0) (hp:ParIs (k+1) B1 pb L en d at1 r w0 w2 v ok ts1 ns at2) (hg7:(w2.alloc o).grownBy w7 g) (hv7:g7=g∨g7=some (w2.alloc o).heap.size):RowIs k B pb L en d at_ g7 ts w w7 (vs++[v]) (M+(1+r.length - ts1.length)) ok ts1 (ms++[nodeOf (k+1) ns]) at2:=by
 obtain⟨i1,i2,⟨j,i3⟩,i4,i5,i6,i7,i8⟩:=hp
 have hkk:Kept (fun i=>i=pb) w1 w2:=hk0.trans' i8 (fun i _ hi=>hi)
 have hal:Below w2.heap.size w2 (w2.alloc o):=(Below.refl _ _).alloc (zr _) _
 have hw1:=h.kept.size
 have hs12:=hkk.size
 have hsa:=hal.size
 have hs7:=hg7.size
 obtain⟨j0,hj0⟩:=h.drop
 have hl:=h.less
 have hf:=h.few
 simp only[List.length_cons]at hl hf
 have ha:at1=at_:=by have:=h.at1;simpa using this
 have h27:∀i,i<w2.heap.size→some i≠g→w7.heap[i]? = w2.heap[i]?:=fun i hi hg=>(hg7.block i (by omega) hg).trans (hal.block i hi)
 refine⟨RowSt.next hk h.row hw i1,by omega,⟨j0+1+j,?_⟩,by omega,?_,by rw[←ha];exact i6,?_,by simp,fun j hj=>?_,fun W hs hW=>?_⟩
 ·rw[i3]
  have h1:r=ts.drop (j0+1):=by rw[←List.tail_drop,←hj0];rfl
  rw[h1,List.drop_drop]
 ·refine i5.lower (by omega) (fun i hi hor=>h27 i hi (fun e=>?_))
  have:=h.own i e.symm
  rcases hor with rfl|hor <;> omega
 ·refine ((h.kept.trans' hkk (fun i _ hi=>hi)).below hal (by omega)).grown hg7 (fun j hj=>Or.inr (h.own j hj))
 ·rcases hv7 with e|e
  ·exact h.own j (e.symm.trans hj)
  ·rw[e]at hj
   injection hj with hj
   omega
 ·have hne:∀i,i<w2.heap.size→some i≠g→some i≠g7:=fun i hi hg e=>by
   rcases hv7 with e7|e7
   ·exact hg (e.trans e7)
   ·rw[e7]at e
    injection e with e
    omega
  have hW2:∀i,i<w2.heap.size→B≤i→some i≠g→W.heap[i]? = w2.heap[i]?:=fun i hi hB hg=>(hW i (by omega) hB (hne i hi hg)).trans (h27 i hi hg)
  have hW1:∀i,i<w1.heap.size→B≤i→some i≠g→W.heap[i]? = w1.heap[i]?:=fun i hi hB hg=>(hW2 i (by omega) hB hg).trans (hkk.block i hi (fun e=>by omega))
  have hWB:∀i,i<w2.heap.size→B1≤i→W.heap[i]? = w2.heap[i]?:=fun i hi hB=>hW2 i hi (by omega) (fun e=>by have:=hg1 i e.symm;omega)
  obtain⟨m1,m2⟩:=h.mem W (by omega) hW1
  have i4':=(i4.keep (by omega) hWB).low (B':=B) (by omega)
  refine⟨.snoc m1 i4',fun ho=>?_⟩
  have i7':=((i7 ho).keep (by omega) hWB).low (B':=B) (by omega)
  obtain⟨h1,h2⟩:=m2 rfl
  refine⟨by rw[List.length_append,List.length_append,h1];rfl,fun i n u hn hu=>?_⟩
  by_cases hi:i<ms.length
  ·rw[List.getElem?_append_left hi]at hn
   rw[List.getElem?_append_left (by omega)]at hu
   exact h2 i n u hn hu
  ·rw[List.getElem?_append_right (by omega)]at hn
   rw[List.getElem?_append_right (by omega),←h1]at hu
   cases hx:i - ms.length with
   | zero=>
    rw[hx]at hn hu
    simp at hn hu
    subst hn hu
    exact i7'
   | succ q=>rw[hx]at hn;simp at hn
def mesP (pb:Nat) (w:World):Nat:=match w.cell? ⟨pb,0,none⟩ with|some (.slice _ n _)=>n|_=>0
theorem Zeb {w:World} {pb L en d at_:Nat} {ts:List Tk} {bad:Bool} (h:PsAt w pb L ts en d bad at_):mesP pb w=ts.length:=by
 obtain⟨A,n,c,h⟩:=h
 have c0:w.cell? ⟨pb,0,none⟩=some (.slice A n c):=h.blk.cell 0
 unfold mesP
 rw[c0,h.len]
theorem PartsOk.single {w:World} {B M:Nat} {v:Value} (h:PartsOk w B [v] M):Okv w B M v:=by
 generalize hg:[v]=gs at h
 cases h with
 | nil=>cases hg
 | @snoc vs' M' N u h' hu=>
  obtain⟨e1,rfl⟩:=Zex (a:=[]) (b:=vs') (x:=v) (y:=u) hg
  subst e1
  generalize hg2:([]:List Value)=g2 at h'
  cases h' with
  | nil=>rw[Nat.zero_add];exact hu
  | snoc h2 hu2=>simp at hg2
theorem Flat.single {w:World} {B k:Nat} {vs us:List Value} {v:Value} {M:Nat} (hk:k<2) (h:Flat w B k vs us) (hu:us = [v]) (hp:PartsOk w B vs M) (h1:1≤vs.length):vs = [v]:=by
 cases h with
 | nil=>simp at h1
 | @row vs' us' xs A m c hf' hr=>
  exfalso
  obtain⟨N,hok⟩:=hp.at (k:=vs'.length) (v:=.iface (rowT k) (.agg #[.slice A m c])) (by simp)
  have hlen:(us'++xs).length=1:=by rw[hu];rfl
  rw[List.length_append,hr.len]at hlen
  obtain⟨_,_,e|⟨t,x,e,h3,h4⟩|⟨k',A',m',c',xs',hk',e,hr',hm,hm2⟩⟩:=hok
  ·cases e
  ·injection e with e1 e2
   rcases (show k=0∨k=1 by omega) with rfl|rfl
   ·exact absurd e1.symm h3
   ·exact absurd e1.symm h4
  ·injection e with e1 e2
   have e3:(#[Value.slice A m c]:Array Value)=#[.slice A' m' c']:=by injection e2
   have e4:Value.slice A m c = .slice A' m' c':=by simpa using e3
   injection e4 with e5 e6 e7
   omega
 | @one vs' us' u hf' hu'=>
  have e1:us' = []∧u=v:=Zex (a:=us') (b:=[]) (x:=u) (y:=v) hu
  obtain⟨rfl,rfl⟩:=e1
  obtain⟨M',hp',_⟩:=hp.take vs'.length
  rw[List.take_left']at hp'
  ·have:=(hf'.few hk hp').2.1
   simp at this
   subst this
   rfl
  ·rfl
theorem RowIs.fin {k B pb L en d at_:Nat} {g:Option Nat} {ts:List Tk} {w w' w2:World} {vs:List Value} {M:Nat} {ok:Bool} {ts1:List Tk} {ms:List Nd} {at1:Nat} (hk:k<2) (h:RowIs k B pb L en d at_ g ts w w' vs M ok ts1 ms at1) (hn:ok=false∨hd (tx ts1)≠wordOf k) (hb:Below w'.heap.size w' w2) {v:Value} {us:List Value} (hf:Flat w' B k vs us) (hv:us = [v]∨(2≤us.length∧∃A' c',v = .iface (rowT k) (.agg #[.slice A' us.length c'])∧RowV w2 B A' us.length c' us)):ParPost k B pb L en d at_ ts w (.returned v) w2:=by
 have hP:=h.row.last hn
 have hfew:=hf.few hk h.parts
 have hM:=h.few
 have hl:=h.less
 refine⟨v,ok,ts1,ms,at1,rfl,⟨hP,h.less,h.drop,?_,h.ps.below hb,h.at1,fun ho=>?_,h.kept.below hb h.kept.size⟩⟩
 ·rcases hv with hu|⟨h2,A',c',rfl,hr⟩
  ·have hvs:=hf.single hk hu h.parts h.one
   have hp:=h.parts
   rw[hvs]at hp
   have:=hp.single.keep hb.size (fun i hi _=>hb.block i hi)
   rw[show 1+ts.length - ts1.length=M by omega]
   exact this
  ·exact⟨by omega,rfl,Or.inr (Or.inr ⟨k,A',us.length,c',us,hk,rfl,hr,h2,by omega⟩)⟩
 ·obtain⟨n1,n2⟩:=h.nd ho
  obtain⟨f1,f2⟩:=hf.nodes hk n1 (hP.nf ho).2 n2
  have e:nodeOf k ms=mkRow k (ms.flatMap (parts' k)):=if_pos hk
  rw[e]
  generalize ms.flatMap (parts' k)=l at f1 f2
  rcases hv with rfl|⟨h2,A',c',rfl,hr⟩
  ·obtain⟨n,rfl⟩:∃n,l = [n]:=List.length_eq_one_iff.1 f1
   exact (f2 0 n v rfl rfl).under hb
  ·have hm:mkRow k l = .row k l:=by
    match l,f1 with
    | [],h3=>rfl
    | [n],h3=>simp at h3;omega
    | a::b::r,_=>rfl
   rw[hm]
   exact .row hr f1 (fun i n u hn hu=>(f2 i n u hn hu).under hb)
theorem or_of (ts:List Tk) (hsub:∀ts',ts'.length≤ts.length→ParOk 122 (0+1) ts'):ParOk 81 0 ts:=by
 intro B pb L en d at_ w hpb hLB hB hd40 hlen hsz hps hge
 obtain⟨i0,hi0,hz0,hz1,hz2⟩:=info_parts Zgz
 have Hand:=zh hsub
 have HSZ:=zh hsz
 have HGE:=zh hge
 have HPL:Hid (pb<w.heap.size):=zh hps.lt
 have HBP:Hid (∀{V:World},Kept (fun i=>i=pb) w V→Below pb w V):=zh (fun k=>k.toBelow (fun i hi=>by omega) (Nat.le_of_lt hps.lt))
 have HCO:=zh (hsub ts (zr _) B pb L en d at_ w hpb hLB hB hd40 hlen hsz hps hge)
 clear hsub hsz hge hps
 go_enter Tryz.func81,Tryz.ntmps81
 go_wp2_with fail
 refine HCO.o.mono ?_
 rintro e w1 ⟨v,ok,ts1,ns,at1,rfl,hpi⟩
 have HR0:Hid (RowIs 0 B pb L en d at_ (some w1.heap.size) ts w w1 [v] (1+ts.length - ts1.length) ok ts1 [nodeOf (0+1) ns] at1):=zh (RowIs.start (by omega) (fun j hj=>by injection hj with hj;omega) hpi)
 have hvf:=Zdv hpi.okv
 have HV1:Hid (∀u∈[v],u.oneCell'=true):=zh (fun u hu=>by simp at hu;subst hu;exact hpi.okv.2.1)
 have HS1:Hid (w.heap.size≤w1.heap.size):=zh hpi.kept.size
 clear hpi HCO
 obtain⟨w2,hw2⟩:∃w2,w1.alloc (.cells #[v] 119)=w2:=⟨_,rfl⟩
 have HO2:Hid (w2.ownsRow w.heap.size 119 1 (.slice (some ⟨w1.heap.size,0,none⟩) 1 1) 1 [v]):=zh (by
  rw[←hw2]
  exact⟨by simp,Or.inr ⟨w1.heap.size,1,#[v],rfl,HS1.o,heap_alloc_new w1 _,zr _,by decide,by simp,by simp⟩⟩)
 have HR2:Hid (RowIs 0 B pb L en d at_ (some w1.heap.size) ts w w2 [v] (1+ts.length - ts1.length) ok ts1 [nodeOf (0+1) ns] at1):=zh (HR0.o.below (by rw[←hw2];exact (Below.refl _ _).alloc (zr _) _))
 have HST:Hid ((∃(n c:Nat) (A:Option Addr) (vs:List Value) (M:Nat) (ok:Bool) (ts1:List Tk) (ms:List Nd) (at1:Nat),Value.slice (some ⟨w1.heap.size,0,none⟩) 1 1 = .slice A n c∧Hid (vs.length=n)∧Hid (∀u∈vs,u.oneCell'=true)∧Hid (w2.ownsRow w.heap.size 119 1 (.slice A n c) n vs)∧Hid (RowIs 0 B pb L en d at_ (Value.slice A n c).ownBlock ts w w2 vs M ok ts1 ms at1))):=zh ⟨1,1,_,[v],_,ok,ts1,_,at1,rfl,zh rfl,HV1,HO2,HR2⟩
 have hgo:Value.slice (some ⟨w1.heap.size,0,none⟩) 1 1 = .slice (some ⟨w1.heap.size,0,none⟩) 1 1:=rfl
 clear HR0 HV1 HS1 HO2 HR2 hgo
 rcases hvf with rfl|⟨tv,xv,rfl⟩
 all_goals
  go_wp2_with fail
  clear hw2
  go_loopw [3] (fun v3 wr=>∃(n c:Nat) (A:Option Addr) (vs:List Value) (M:Nat) (ok:Bool) (ts1:List Tk) (ms:List Nd) (at1:Nat),v3 = .slice A n c∧Hid (vs.length=n)∧Hid (∀u∈vs,u.oneCell'=true)∧Hid (wr.ownsRow w.heap.size 119 1 (.slice A n c) n vs)∧Hid (RowIs 0 B pb L en d at_ (Value.slice A n c).ownBlock ts w wr vs M ok ts1 ms at1)) (fun _ wr=>mesP pb wr)
  case atStart=>exact HST.o
  case round=>
   clear HST
   obtain⟨n,c,A,vs,M,ok,ts1,ms,at1,rfl,hn,hone,hown,hri⟩:=hrel
   have HP:=zh hri.o.ps
   have HPB:Hid (Below pb w wr):=zh (HBP.o hri.o.kept)
   have HME:Hid (mesP pb wr=ts1.length):=zh (Zeb hri.o.ps)
   have hnl:n≤3001:=by
    have h1:=Zdu hri.o.parts
    have h2:=hri.o.few
    rw[hn.o]at h1
    omega
   have HRV:Hid (∀W,Below wr.heap.size wr W→RowV W B A n c vs):=zh (fun W hW=>by
    have h0:RowV wr B A n c vs:=by
     refine⟨RowIn.of_own hown.o,hn.o,fun g' o' e=>?_,fun e=>?_,hone.o⟩
     ·have:=(hown.o.lt g' (by rw[e];rfl)).1
      omega
     ·obtain⟨g7,cap,hv7,_⟩:=hown.o.form (by have:=hri.o.one;have:=hn.o;omega)
      injection hv7 with hA _ _
      rw[e]at hA
      cases hA
    exact h0.keep hW.size (fun i hi _=>hW.block i hi))
   have HEND:Hid ((ok=false∨hd (tx ts1)≠wordOf 0)→∀W,Below wr.heap.size wr W→Calls Tryz.prog 125 #[.slice A n c] W fun e w'=>ParPost 0 B pb L en d at_ ts w e w'):=zh (fun hno W hW=>by
    have hri2:=hri.o.below hW
    refine (Zpl B n c M A vs W (HRV.o W hW) (by have:=hri.o.one;have:=hn.o;omega) hri2.parts (by have:=hri.o.few;omega) (Nat.le_trans hB (Nat.le_trans hri.o.kept.size hW.size))).mono ?_
    rintro e w' ⟨v,us,rfl,hf,hb,hv⟩
    exact hri2.fin (by omega) hno hb hf hv)
   clear HRV
   cases ok
   ·have HNX:=zh (Zgx pb en d at1 ts1 wr HP.o)
    have HEN2:=zh (HEND.o (Or.inl rfl))
    clear HEND
    go_wp2_with fail
    refine HNX.o.mono ?_
    rintro e w4 ⟨rfl,hb4⟩
    have HX:=zh (HEN2.o w4 hb4)
    clear HEN2 hb4
    go_wp2_with fail
    refine HX.o.mono ?_
    rintro e w5 ⟨v,ok5,ts5,ns5,at5,rfl,hpi⟩
    have HPI:=zh hpi
    clear hpi
    go_wp2_with fail
    go_ret
    exact⟨v,ok5,ts5,ns5,at5,rfl,HPI.o⟩
   ·have HNX:=zh (Zdt pb en d at1 ts1 wr HP.o)
    obtain⟨wd,hwd⟩:∃wd,hd (tx ts1)=wd:=⟨_,rfl⟩
    have HWD:=zh hwd
    rw[hwd]at HNX
    clear hwd
    by_cases hw:wd=wordOf 0
    ·have q1:(wd.toList == [111,114])=true:=Zbm hw
     have HHW:=zh (HWD.o.trans hw)
     obtain⟨t,r,rfl,_,_⟩:=Zea HHW.o (by decide)
     clear hw HEND
     go_wp2_with fail
     refine HNX.o.mono ?_
     rintro e w4 ⟨rfl,hb4⟩
     have HB4:=zh hb4
     have HT4:=zh (Zc4 pb en d at1 t r w4 (HP.o.below hb4))
     clear hb4
     go_wp2_with fail
     refine HT4.o.mono ?_
     rintro e w5 ⟨rfl,hp5,hk5⟩
     have HP5:=zh hp5
     have HK5:Hid (Kept (fun i=>i=pb) wr w5):=zh ((below_kept HB4.o).trans' hk5 (fun i _ hi=>hi))
     have hat:at1=at_:=by have:=hri.o.at1;simpa using this
     have HC5:=zh (Hand.o r (by have:=hri.o.less;simp at this;omega) w5.heap.size pb L en d at1 w5 (by have:=hri.o.kept.size;have:=HK5.o.size;omega) (by have:=hri.o.kept.size;have:=HK5.o.size;omega) (zr _) hd40 (by have:=hri.o.less;simp at this;omega) (fun x hx=>by
      obtain⟨j,hj⟩:=hri.o.drop
      exact HSZ.o x (List.mem_of_mem_drop (i:=j) (by rw[←hj];simp[hx]))) hp5 (fun V hV=>HGE.o V ((HPB.o.trans (HK5.o.toBelow (fun i hi=>by omega) (by have:=HPL.o;have:=HPB.o.size;omega))).trans hV)))
     clear hp5 hk5 HT4 hat
     go_wp2_with fail
     refine HC5.o.mono ?_
     rintro e w6 ⟨v,ok6,ts6,ns6,at6,rfl,hpi⟩
     have HPI6:=zh hpi
     have HK6:Hid (Kept (fun i=>i=pb) wr w6):=zh (HK5.o.trans' hpi.kept (fun i _ hi=>hi))
     have HO6:Hid (w6.ownsRow w.heap.size 119 1 (.slice A n c) n vs):=zh (Zkk hown.o HK6.o (fun i hi=>by have:=HPL.o;omega))
     have HV6:Hid (∀u∈[v],u.oneCell'=true):=zh (fun u hu=>by simp at hu;subst hu;exact hpi.okv.2.1)
     have hvf6:=Zdv hpi.okv
     have hz6:w.heap.size≤w6.heap.size:=Nat.le_trans hri.o.kept.size HK6.o.size
     have HL6:Hid (ts6.length≤r.length):=zh hpi.less
     clear hpi HC5
     rcases hvf6 with rfl|⟨tv6,xv6,rfl⟩
     ·go_wp2_with (first
       | (at_builtin;refine Zaa _ rfl _ _ 123 rfl w.heap.size 119 i0 _ 1 16 Tryz.underlying123 hi0 hz0 hz1 hz2 rfl (by omega) (.slice A n c) n _ rfl (HO6.o.alloc _) (w6.heap.size+1) (some ⟨w6.heap.size,0,none⟩) 1 1 [.nilIface] rfl (Zen w6 .nilIface _ rfl) (fun h=>by cases h) HV6.o (by unfold maxLen;omega) (by omega) (by simp;omega) ?_;intro v7 w7 ho7 hg7 hv7))
      obtain⟨A7,c7,hr7⟩:=own_shape ho7
      subst hr7
      have HR7:Hid (RowIs 0 B pb L en d at_ (Value.slice A7 (n+1) c7).ownBlock ts w w7 (vs++[.nilIface]) (M+(1+r.length - ts6.length)) ok6 ts6 (ms++[nodeOf (0+1) ns6]) at6):=zh (hri.o.next (by omega) hpb hLB hB HHW.o (fun j hj=>(hown.o.lt j hj).2) HK5.o.size HK5.o HPI6.o hg7 hv7)
      have HM7:Hid (mesP pb w7=ts6.length):=zh (Zeb HR7.o.ps)
      go_wp2_with fail
      go_roundw
      case rel=>exact⟨n+1,c7,A7,vs++[.nilIface],_,ok6,ts6,_,at6,rfl,zh (by rw[List.length_append,hn.o];rfl),zh (fun u hu=>by rcases List.mem_append.1 hu with hu|hu;exact hone.o u hu;exact HV6.o u hu),zh ho7,HR7⟩
      case measure=>rw[HM7.o,HME.o];have:=HL6.o;simp;omega
     ·go_wp2_with (first
       | (at_builtin;refine Zaa _ rfl _ _ 123 rfl w.heap.size 119 i0 _ 1 16 Tryz.underlying123 hi0 hz0 hz1 hz2 rfl (by omega) (.slice A n c) n _ rfl (HO6.o.alloc _) (w6.heap.size+1) (some ⟨w6.heap.size,0,none⟩) 1 1 [(.iface tv6 xv6)] rfl (Zen w6 (.iface tv6 xv6) _ rfl) (fun h=>by cases h) HV6.o (by unfold maxLen;omega) (by omega) (by simp;omega) ?_;intro v7 w7 ho7 hg7 hv7))
      obtain⟨A7,c7,hr7⟩:=own_shape ho7
      subst hr7
      have HR7:Hid (RowIs 0 B pb L en d at_ (Value.slice A7 (n+1) c7).ownBlock ts w w7 (vs++[(.iface tv6 xv6)]) (M+(1+r.length - ts6.length)) ok6 ts6 (ms++[nodeOf (0+1) ns6]) at6):=zh (hri.o.next (by omega) hpb hLB hB HHW.o (fun j hj=>(hown.o.lt j hj).2) HK5.o.size HK5.o HPI6.o hg7 hv7)
      have HM7:Hid (mesP pb w7=ts6.length):=zh (Zeb HR7.o.ps)
      go_wp2_with fail
      go_roundw
      case rel=>exact⟨n+1,c7,A7,vs++[(.iface tv6 xv6)],_,ok6,ts6,_,at6,rfl,zh (by rw[List.length_append,hn.o];rfl),zh (fun u hu=>by rcases List.mem_append.1 hu with hu|hu;exact hone.o u hu;exact HV6.o u hu),zh ho7,HR7⟩
      case measure=>rw[HM7.o,HME.o];have:=HL6.o;simp;omega
    ·have q1:(wd.toList == [111,114])=false:=Zbg hw
     have HEN2:=zh (HEND.o (Or.inr (fun e=>hw (HWD.o.symm.trans e))))
     clear HEND hw
     go_wp2_with fail
     refine HNX.o.mono ?_
     rintro e w4 ⟨rfl,hb4⟩
     have HX:=zh (HEN2.o w4 hb4)
     clear HEN2 hb4
     go_wp2_with fail
     refine HX.o.mono ?_
     rintro e w5 ⟨v,ok5,ts5,ns5,at5,rfl,hpi⟩
     have HPI:=zh hpi
     clear hpi
     go_wp2_with fail
     go_ret
     exact⟨v,ok5,ts5,ns5,at5,rfl,HPI.o⟩
theorem Ztw (ts:List Tk) (hsub:∀ts',ts'.length≤ts.length→ParOk 170 (1+1) ts'):ParOk 122 1 ts:=by
 intro B pb L en d at_ w hpb hLB hB hd40 hlen hsz hps hge
 obtain⟨i0,hi0,hz0,hz1,hz2⟩:=info_parts Zgz
 have Hnot:=zh hsub
 have HSZ:=zh hsz
 have HGE:=zh hge
 have HPL:Hid (pb<w.heap.size):=zh hps.lt
 have HBP:Hid (∀{V:World},Kept (fun i=>i=pb) w V→Below pb w V):=zh (fun k=>k.toBelow (fun i hi=>by omega) (Nat.le_of_lt hps.lt))
 have HCO:=zh (hsub ts (zr _) B pb L en d at_ w hpb hLB hB hd40 hlen hsz hps hge)
 clear hsub hsz hge hps
 go_enter Tryz.func122,Tryz.ntmps122
 go_wp2_with fail
 refine HCO.o.mono ?_
 rintro e w1 ⟨v,ok,ts1,ns,at1,rfl,hpi⟩
 have HR0:Hid (RowIs 1 B pb L en d at_ (some w1.heap.size) ts w w1 [v] (1+ts.length - ts1.length) ok ts1 [nodeOf (1+1) ns] at1):=zh (RowIs.start (by omega) (fun j hj=>by injection hj with hj;omega) hpi)
 have hvf:=Zdv hpi.okv
 have HV1:Hid (∀u∈[v],u.oneCell'=true):=zh (fun u hu=>by simp at hu;subst hu;exact hpi.okv.2.1)
 have HS1:Hid (w.heap.size≤w1.heap.size):=zh hpi.kept.size
 clear hpi HCO
 obtain⟨w2,hw2⟩:∃w2,w1.alloc (.cells #[v] 119)=w2:=⟨_,rfl⟩
 have HO2:Hid (w2.ownsRow w.heap.size 119 1 (.slice (some ⟨w1.heap.size,0,none⟩) 1 1) 1 [v]):=zh (by
  rw[←hw2]
  exact⟨by simp,Or.inr ⟨w1.heap.size,1,#[v],rfl,HS1.o,heap_alloc_new w1 _,zr _,by decide,by simp,by simp⟩⟩)
 have HR2:Hid (RowIs 1 B pb L en d at_ (some w1.heap.size) ts w w2 [v] (1+ts.length - ts1.length) ok ts1 [nodeOf (1+1) ns] at1):=zh (HR0.o.below (by rw[←hw2];exact (Below.refl _ _).alloc (zr _) _))
 have HST:Hid ((∃(n c:Nat) (A:Option Addr) (vs:List Value) (M:Nat) (ok:Bool) (ts1:List Tk) (ms:List Nd) (at1:Nat),Value.slice (some ⟨w1.heap.size,0,none⟩) 1 1 = .slice A n c∧Hid (vs.length=n)∧Hid (∀u∈vs,u.oneCell'=true)∧Hid (w2.ownsRow w.heap.size 119 1 (.slice A n c) n vs)∧Hid (RowIs 1 B pb L en d at_ (Value.slice A n c).ownBlock ts w w2 vs M ok ts1 ms at1))):=zh ⟨1,1,_,[v],_,ok,ts1,_,at1,rfl,zh rfl,HV1,HO2,HR2⟩
 have hgo:Value.slice (some ⟨w1.heap.size,0,none⟩) 1 1 = .slice (some ⟨w1.heap.size,0,none⟩) 1 1:=rfl
 clear HR0 HV1 HS1 HO2 HR2 hgo
 rcases hvf with rfl|⟨tv,xv,rfl⟩
 all_goals
  go_wp2_with fail
  clear hw2
  go_loopw [3] (fun v3 wr=>∃(n c:Nat) (A:Option Addr) (vs:List Value) (M:Nat) (ok:Bool) (ts1:List Tk) (ms:List Nd) (at1:Nat),v3 = .slice A n c∧Hid (vs.length=n)∧Hid (∀u∈vs,u.oneCell'=true)∧Hid (wr.ownsRow w.heap.size 119 1 (.slice A n c) n vs)∧Hid (RowIs 1 B pb L en d at_ (Value.slice A n c).ownBlock ts w wr vs M ok ts1 ms at1)) (fun _ wr=>mesP pb wr)
  case atStart=>exact HST.o
  case round=>
   clear HST
   obtain⟨n,c,A,vs,M,ok,ts1,ms,at1,rfl,hn,hone,hown,hri⟩:=hrel
   have HP:=zh hri.o.ps
   have HPB:Hid (Below pb w wr):=zh (HBP.o hri.o.kept)
   have HME:Hid (mesP pb wr=ts1.length):=zh (Zeb hri.o.ps)
   have hnl:n≤3001:=by
    have h1:=Zdu hri.o.parts
    have h2:=hri.o.few
    rw[hn.o]at h1
    omega
   have HRV:Hid (∀W,Below wr.heap.size wr W→RowV W B A n c vs):=zh (fun W hW=>by
    have h0:RowV wr B A n c vs:=by
     refine⟨RowIn.of_own hown.o,hn.o,fun g' o' e=>?_,fun e=>?_,hone.o⟩
     ·have:=(hown.o.lt g' (by rw[e];rfl)).1
      omega
     ·obtain⟨g7,cap,hv7,_⟩:=hown.o.form (by have:=hri.o.one;have:=hn.o;omega)
      injection hv7 with hA _ _
      rw[e]at hA
      cases hA
    exact h0.keep hW.size (fun i hi _=>hW.block i hi))
   have HEND:Hid ((ok=false∨hd (tx ts1)≠wordOf 1)→∀W,Below wr.heap.size wr W→Calls Tryz.prog 70 #[.slice A n c] W fun e w'=>ParPost 1 B pb L en d at_ ts w e w'):=zh (fun hno W hW=>by
    have hri2:=hri.o.below hW
    refine (Zm7 B n c M A vs W (HRV.o W hW) (by have:=hri.o.one;have:=hn.o;omega) hri2.parts (by have:=hri.o.few;omega) (Nat.le_trans hB (Nat.le_trans hri.o.kept.size hW.size))).mono ?_
    rintro e w' ⟨v,us,rfl,hf,hb,hv⟩
    exact hri2.fin (by omega) hno hb hf hv)
   clear HRV
   cases ok
   ·have HNX:=zh (Zgx pb en d at1 ts1 wr HP.o)
    have HEN2:=zh (HEND.o (Or.inl rfl))
    clear HEND
    go_wp2_with fail
    refine HNX.o.mono ?_
    rintro e w4 ⟨rfl,hb4⟩
    have HX:=zh (HEN2.o w4 hb4)
    clear HEN2 hb4
    go_wp2_with fail
    refine HX.o.mono ?_
    rintro e w5 ⟨v,ok5,ts5,ns5,at5,rfl,hpi⟩
    have HPI:=zh hpi
    clear hpi
    go_wp2_with fail
    go_ret
    exact⟨v,ok5,ts5,ns5,at5,rfl,HPI.o⟩
   ·have HNX:=zh (Zdt pb en d at1 ts1 wr HP.o)
    obtain⟨wd,hwd⟩:∃wd,hd (tx ts1)=wd:=⟨_,rfl⟩
    have HWD:=zh hwd
    rw[hwd]at HNX
    clear hwd
    by_cases hw:wd=wordOf 1
    ·have q1:(wd.toList == [97,110,100])=true:=Zbm hw
     have HHW:=zh (HWD.o.trans hw)
     obtain⟨t,r,rfl,_,_⟩:=Zea HHW.o (by decide)
     clear hw HEND
     go_wp2_with fail
     refine HNX.o.mono ?_
     rintro e w4 ⟨rfl,hb4⟩
     have HB4:=zh hb4
     have HT4:=zh (Zc4 pb en d at1 t r w4 (HP.o.below hb4))
     clear hb4
     go_wp2_with fail
     refine HT4.o.mono ?_
     rintro e w5 ⟨rfl,hp5,hk5⟩
     have HP5:=zh hp5
     have HK5:Hid (Kept (fun i=>i=pb) wr w5):=zh ((below_kept HB4.o).trans' hk5 (fun i _ hi=>hi))
     have hat:at1=at_:=by have:=hri.o.at1;simpa using this
     have HC5:=zh (Hnot.o r (by have:=hri.o.less;simp at this;omega) w5.heap.size pb L en d at1 w5 (by have:=hri.o.kept.size;have:=HK5.o.size;omega) (by have:=hri.o.kept.size;have:=HK5.o.size;omega) (zr _) hd40 (by have:=hri.o.less;simp at this;omega) (fun x hx=>by
      obtain⟨j,hj⟩:=hri.o.drop
      exact HSZ.o x (List.mem_of_mem_drop (i:=j) (by rw[←hj];simp[hx]))) hp5 (fun V hV=>HGE.o V ((HPB.o.trans (HK5.o.toBelow (fun i hi=>by omega) (by have:=HPL.o;have:=HPB.o.size;omega))).trans hV)))
     clear hp5 hk5 HT4 hat
     go_wp2_with fail
     refine HC5.o.mono ?_
     rintro e w6 ⟨v,ok6,ts6,ns6,at6,rfl,hpi⟩
     have HPI6:=zh hpi
     have HK6:Hid (Kept (fun i=>i=pb) wr w6):=zh (HK5.o.trans' hpi.kept (fun i _ hi=>hi))
     have HO6:Hid (w6.ownsRow w.heap.size 119 1 (.slice A n c) n vs):=zh (Zkk hown.o HK6.o (fun i hi=>by have:=HPL.o;omega))
     have HV6:Hid (∀u∈[v],u.oneCell'=true):=zh (fun u hu=>by simp at hu;subst hu;exact hpi.okv.2.1)
     have hvf6:=Zdv hpi.okv
     have hz6:w.heap.size≤w6.heap.size:=Nat.le_trans hri.o.kept.size HK6.o.size
     have HL6:Hid (ts6.length≤r.length):=zh hpi.less
     clear hpi HC5
     rcases hvf6 with rfl|⟨tv6,xv6,rfl⟩
     ·go_wp2_with (first
       | (at_builtin;refine Zaa _ rfl _ _ 123 rfl w.heap.size 119 i0 _ 1 16 Tryz.underlying123 hi0 hz0 hz1 hz2 rfl (by omega) (.slice A n c) n _ rfl (HO6.o.alloc _) (w6.heap.size+1) (some ⟨w6.heap.size,0,none⟩) 1 1 [.nilIface] rfl (Zen w6 .nilIface _ rfl) (fun h=>by cases h) HV6.o (by unfold maxLen;omega) (by omega) (by simp;omega) ?_;intro v7 w7 ho7 hg7 hv7))
      obtain⟨A7,c7,hr7⟩:=own_shape ho7
      subst hr7
      have HR7:Hid (RowIs 1 B pb L en d at_ (Value.slice A7 (n+1) c7).ownBlock ts w w7 (vs++[.nilIface]) (M+(1+r.length - ts6.length)) ok6 ts6 (ms++[nodeOf (1+1) ns6]) at6):=zh (hri.o.next (by omega) hpb hLB hB HHW.o (fun j hj=>(hown.o.lt j hj).2) HK5.o.size HK5.o HPI6.o hg7 hv7)
      have HM7:Hid (mesP pb w7=ts6.length):=zh (Zeb HR7.o.ps)
      go_wp2_with fail
      go_roundw
      case rel=>exact⟨n+1,c7,A7,vs++[.nilIface],_,ok6,ts6,_,at6,rfl,zh (by rw[List.length_append,hn.o];rfl),zh (fun u hu=>by rcases List.mem_append.1 hu with hu|hu;exact hone.o u hu;exact HV6.o u hu),zh ho7,HR7⟩
      case measure=>rw[HM7.o,HME.o];have:=HL6.o;simp;omega
     ·go_wp2_with (first
       | (at_builtin;refine Zaa _ rfl _ _ 123 rfl w.heap.size 119 i0 _ 1 16 Tryz.underlying123 hi0 hz0 hz1 hz2 rfl (by omega) (.slice A n c) n _ rfl (HO6.o.alloc _) (w6.heap.size+1) (some ⟨w6.heap.size,0,none⟩) 1 1 [(.iface tv6 xv6)] rfl (Zen w6 (.iface tv6 xv6) _ rfl) (fun h=>by cases h) HV6.o (by unfold maxLen;omega) (by omega) (by simp;omega) ?_;intro v7 w7 ho7 hg7 hv7))
      obtain⟨A7,c7,hr7⟩:=own_shape ho7
      subst hr7
      have HR7:Hid (RowIs 1 B pb L en d at_ (Value.slice A7 (n+1) c7).ownBlock ts w w7 (vs++[(.iface tv6 xv6)]) (M+(1+r.length - ts6.length)) ok6 ts6 (ms++[nodeOf (1+1) ns6]) at6):=zh (hri.o.next (by omega) hpb hLB hB HHW.o (fun j hj=>(hown.o.lt j hj).2) HK5.o.size HK5.o HPI6.o hg7 hv7)
      have HM7:Hid (mesP pb w7=ts6.length):=zh (Zeb HR7.o.ps)
      go_wp2_with fail
      go_roundw
      case rel=>exact⟨n+1,c7,A7,vs++[(.iface tv6 xv6)],_,ok6,ts6,_,at6,rfl,zh (by rw[List.length_append,hn.o];rfl),zh (fun u hu=>by rcases List.mem_append.1 hu with hu|hu;exact hone.o u hu;exact HV6.o u hu),zh ho7,HR7⟩
      case measure=>rw[HM7.o,HME.o];have:=HL6.o;simp;omega
    ·have q1:(wd.toList == [97,110,100])=false:=Zbg hw
     have HEN2:=zh (HEND.o (Or.inr (fun e=>hw (HWD.o.symm.trans e))))
     clear HEND hw
     go_wp2_with fail
     refine HNX.o.mono ?_
     rintro e w4 ⟨rfl,hb4⟩
     have HX:=zh (HEN2.o w4 hb4)
     clear HEN2 hb4
     go_wp2_with fail
     refine HX.o.mono ?_
     rintro e w5 ⟨v,ok5,ts5,ns5,at5,rfl,hpi⟩
     have HPI:=zh hpi
     clear hpi
     go_wp2_with fail
     go_ret
     exact⟨v,ok5,ts5,ns5,at5,rfl,HPI.o⟩
end Go.Proofs.YthdmpcnnbminlaaGreatDoor.Ru
