/- A part of the joined base. -/
import Derived.Test.YtnpfaajhgghpgaaGreatDoorU18
set_option linter.unusedVariables false
set_option maxHeartbeats 8000000
set_option maxRecDepth 100000
namespace Go.Proofs.YtnpfaajhgghpgaaGreatDoor.Ru
open Go.RowKit Go.Maps Go.Shelf
theorem Zdv {w:World}{B N:Nat}{v:Value}(h:Okv w B N v):v = .nilIface\/∃t x,v = .iface t x:=by
 obtain⟨_,_,h2|⟨t,y,e',_⟩|⟨k',A',m',c',xs',_,e',_⟩⟩:=h
 ·exact Or.inl h2
 ·exact Or.inr ⟨_,_,e'⟩
 ·exact Or.inr ⟨_,_,e'⟩
theorem Zkk {w w':World}{base:Nat}{e:TypeId}{size:Nat}{v:Value}{n:Nat}{xs:List Value}(h:w.ownsRow base e size v n xs){S:Nat->Prop}(k:Kept S w w')(hS:∀i,base<=i->¬S i):w'.ownsRow base e size v n xs:=by
 refine⟨h.1,?_⟩;rcases h.2 with hn|⟨g,cap,cur,hv,hb,hg,rest⟩
 ·exact .inl hn
 ·exact .inr ⟨g,cap,cur,hv,hb,(k.block g (Array.getElem?_eq_some_iff.1 hg).1 (hS g hb)).trans hg,rest⟩
theorem RowV.low {w:World}{B B' m c:Nat}{A:Option Addr}{xs:List Value}(h:RowV w B A m c xs)(hB:B'<=B):RowV w B' A m c xs:=⟨h.row,h.len,fun g o e=>Nat.le_trans hB (h.far g o e),h.nc,h.one⟩
theorem NdAt.low {w:World}{B B':Nat}{n:Nd}{v:Value}(h:NdAt w B n v)(hB:B'<=B):NdAt w B' n v:=by
 induction h with
 | atom a=>exact .atom a
 | no h ih=>exact .no ih
 | row hr hl h ih=>exact .row (hr.low hB) hl ih
theorem Okv.low {w:World}{B B' N:Nat}{v:Value}(h:Okv w B N v)(hB:B'<=B):Okv w B' N v:=by
 obtain⟨h0,h1,h2|h2|⟨k,A,m,c,xs,hk,e,hr,hm⟩⟩:=h
 ·exact⟨h0,h1,Or.inl h2⟩
 ·exact⟨h0,h1,Or.inr (Or.inl h2)⟩
 ·exact⟨h0,h1,Or.inr (Or.inr ⟨k,A,m,c,xs,hk,e,hr.low hB,hm⟩)⟩
theorem PsAt.lower {w w':World}{pb L en d at_:Nat}{ts:List Tk}{bad:Bool}(h:PsAt w pb L ts en d bad at_)(hs:w.heap.size<=w'.heap.size)(hb:∀i,i<w.heap.size->(i=pb\/i<L)->w'.heap[i]? = w.heap[i]?):PsAt w' pb L ts en d bad at_:=by
 obtain⟨A,n,c,h⟩:=h;refine⟨A,n,c,(hb pb h.blk.lt (Or.inl rfl)).trans h.blk,⟨h.row.1,?_⟩,h.len,h.cap,h.far⟩;rcases h.row.2 with h0|⟨b,off,e,hbl,hc⟩
 ·exact Or.inl h0
 ·refine Or.inr ⟨b,off,e,by omega,fun j u hu=>?_⟩;exact (World.cell?_of_block (hb b hbl (Or.inr (h.far b off e).2))).trans (hc j u hu)
structure RowIs (k B pb L en d at_:Nat) (g:Option Nat) (ts:List Tk) (w w':World) (vs:List Value) (M:Nat) (ok:Bool) (ts1:List Tk) (ms:List Nd) (at1:Nat):Prop where
 row:RowSt k d (tx ts) ok (tx ts1) ms
 less:ts1.length<=ts.length
 drop:∃j,ts1=ts.drop j
 few:M+ts1.length=1+ts.length
 ps:PsAt w' pb L ts1 en d (!ok) at1
 at1:at1=if ok then at_ else place ts1 en
 kept:Kept (fun i=>i=pb) w w'
 one:1<=vs.length
 own:∀j,g=some j->w.heap.size<=j
 mem:∀W:World,w'.heap.size<=W.heap.size->(∀i,i<w'.heap.size->B<=i->some i≠g->W.heap[i]? = w'.heap[i]?)->PartsOk W B vs M/\(ok=true->ms.length=vs.length/\∀(i:Nat) n v,ms[i]? = some n->vs[i]? = some v->NdAt W B n v)
theorem RowIs.parts {k B pb L en d at_:Nat}{g:Option Nat}{ts:List Tk}{w w':World}{vs:List Value}{M:Nat}{ok:Bool}{ts1:List Tk}{ms:List Nd}{at1:Nat}(h:RowIs k B pb L en d at_ g ts w w' vs M ok ts1 ms at1):PartsOk w' B vs M:=(h.mem w' (zr _) (fun _ _ _ _=>rfl)).1
theorem RowIs.nd {k B pb L en d at_:Nat}{g:Option Nat}{ts:List Tk}{w w':World}{vs:List Value}{M:Nat}{ok:Bool}{ts1:List Tk}{ms:List Nd}{at1:Nat}(h:RowIs k B pb L en d at_ g ts w w' vs M ok ts1 ms at1):ok=true->ms.length=vs.length/\∀(i:Nat) n v,ms[i]? = some n->vs[i]? = some v->NdAt w' B n v:=(h.mem w' (zr _) (fun _ _ _ _=>rfl)).2
theorem RowIs.start {k B pb L en d at_:Nat}{g:Option Nat}{ts:List Tk}{w w':World}{v:Value}{ok:Bool}{ts1:List Tk}{ns:List Nd}{at1:Nat}(hk:k<2)(hg:∀j,g=some j->w'.heap.size<=j)(h:ParIs (k+1) B pb L en d at_ ts w w' v ok ts1 ns at1):RowIs k B pb L en d at_ g ts w w' [v] (1+ts.length - ts1.length) ok ts1 [nodeOf (k+1) ns] at1:=by
 obtain⟨i1,i2,i3,i4,i5,i6,i7,i8⟩:=h;refine⟨RowSt.start hk i1,i2,i3,by omega,i5,i6,i8,zr _,fun j hj=>Nat.le_trans i8.size (hg j hj),fun W hs hb=>?_⟩;have hb':∀i,i<w'.heap.size->B<=i->W.heap[i]? = w'.heap[i]?:=fun i hi hB=>hb i hi hB (fun e=>by have:=hg i e.symm;omega);refine⟨?_,fun ho=>⟨rfl,fun i n u hn hu=>?_⟩⟩
 ·have:=PartsOk.snoc .nil (i4.keep hs hb');rw[Nat.zero_add]at this;exact this
 ·cases i with
  | zero=>simp at hn hu;subst hn hu;exact (i7 ho).keep hs hb'
  | succ i=>simp at hn
theorem RowIs.below {k B pb L en d at_:Nat}{g:Option Nat}{ts:List Tk}{w w' w2:World}{vs:List Value}{M:Nat}{ok:Bool}{ts1:List Tk}{ms:List Nd}{at1:Nat}(h:RowIs k B pb L en d at_ g ts w w' vs M ok ts1 ms at1)(hb:Below w'.heap.size w' w2):RowIs k B pb L en d at_ g ts w w2 vs M ok ts1 ms at1:=
 ⟨h.row,h.less,h.drop,h.few,h.ps.below hb,h.at1,h.kept.below hb h.kept.size,h.one,h.own,fun W hs hW=>h.mem W (Nat.le_trans hb.size hs) (fun i hi hB hg=>(hW i (Nat.lt_of_lt_of_le hi hb.size) hB hg).trans (hb.block i hi))⟩
theorem RowIs.next {k B B1 pb L en d at_:Nat}{g g7:Option Nat}{ts:List Tk}{w w1 w2 w7:World}{o:Obj}{vs:List Value}{M:Nat}{t:Tk}{r:List Tk}{ms:List Nd}{at1:Nat}(hk:k<2)(hpb:pb<B)(hLB:L<=B)(hBw:B<=w.heap.size)(h:RowIs k B pb L en d at_ g ts w w1 vs M true (t::r) ms at1)(hw:hd (tx (t::r))=wordOf k)(hg1:∀j,g=some j->j<w1.heap.size)(hB1:w1.heap.size<=B1){v:Value}{ok:Bool}{ts1:List Tk}{ns:List Nd}{at2:Nat}{w0:World}(hk0:Kept (fun i=>i=pb) w1 w0)(hp:ParIs (k+1) B1 pb L en d at1 r w0 w2 v ok ts1 ns at2)(hg7:(w2.alloc o).grownBy w7 g)(hv7:g7=g\/g7=some (w2.alloc o).heap.size):RowIs k B pb L en d at_ g7 ts w w7 (vs++[v]) (M+(1+r.length - ts1.length)) ok ts1 (ms++[nodeOf (k+1) ns]) at2:=by
 obtain⟨i1,i2,⟨j,i3⟩,i4,i5,i6,i7,i8⟩:=hp;have hkk:Kept (fun i=>i=pb) w1 w2:=hk0.trans' i8 (fun i _ hi=>hi);have hal:Below w2.heap.size w2 (w2.alloc o):=(Below.refl _ _).alloc (zr _) _;have hw1:=h.kept.size;have hs12:=hkk.size;have hsa:=hal.size;have hs7:=hg7.size;obtain⟨j0,hj0⟩:=h.drop;have hl:=h.less;have hf:=h.few;simp only[List.length_cons]at hl hf;have ha:at1=at_:=by have:=h.at1;simpa using this
 have h27:∀i,i<w2.heap.size->some i≠g->w7.heap[i]? = w2.heap[i]?:=fun i hi hg=>(hg7.block i (by omega) hg).trans (hal.block i hi);refine⟨RowSt.next hk h.row hw i1,by omega,⟨j0+1+j,?_⟩,by omega,?_,by rw[<-ha];exact i6,?_,by simp,fun j hj=>?_,fun W hs hW=>?_⟩
 ·rw[i3];have h1:r=ts.drop (j0+1):=by rw[<-List.tail_drop,<-hj0];rfl
  rw[h1,List.drop_drop]
 ·refine i5.lower (by omega) (fun i hi hor=>h27 i hi (fun e=>?_));have:=h.own i e.symm;rcases hor with rfl|hor <;> omega
 ·refine ((h.kept.trans' hkk (fun i _ hi=>hi)).below hal (by omega)).grown hg7 (fun j hj=>Or.inr (h.own j hj))
 ·rcases hv7 with e|e
  ·exact h.own j (e.symm.trans hj)
  ·rw[e]at hj;injection hj with hj;omega
 ·have hne:∀i,i<w2.heap.size->some i≠g->some i≠g7:=fun i hi hg e=>by
   rcases hv7 with e7|e7
   ·exact hg (e.trans e7)
   ·rw[e7]at e;injection e with e;omega
  have hW2:∀i,i<w2.heap.size->B<=i->some i≠g->W.heap[i]? = w2.heap[i]?:=fun i hi hB hg=>(hW i (by omega) hB (hne i hi hg)).trans (h27 i hi hg);have hW1:∀i,i<w1.heap.size->B<=i->some i≠g->W.heap[i]? = w1.heap[i]?:=fun i hi hB hg=>(hW2 i (by omega) hB hg).trans (hkk.block i hi (fun e=>by omega));have hWB:∀i,i<w2.heap.size->B1<=i->W.heap[i]? = w2.heap[i]?:=fun i hi hB=>hW2 i hi (by omega) (fun e=>by have:=hg1 i e.symm;omega);obtain⟨m1,m2⟩:=h.mem W (by omega) hW1;have i4':=(i4.keep (by omega) hWB).low (B':=B) (by omega);refine⟨.snoc m1 i4',fun ho=>?_⟩;have i7':=((i7 ho).keep (by omega) hWB).low (B':=B) (by omega);obtain⟨h1,h2⟩:=m2 rfl;refine⟨by rw[List.length_append,List.length_append,h1];rfl,fun i n u hn hu=>?_⟩;by_cases hi:i<ms.length
  ·rw[List.getElem?_append_left hi]at hn;rw[List.getElem?_append_left (by omega)]at hu;exact h2 i n u hn hu
  ·rw[List.getElem?_append_right (by omega)]at hn;rw[List.getElem?_append_right (by omega),<-h1]at hu;cases hx:i - ms.length with
   | zero=>
    rw[hx]at hn hu;simp at hn hu;subst hn hu;exact i7'
   | succ q=>rw[hx]at hn;simp at hn
def mesP (pb:Nat)(w:World):Nat:=match w.cell? ⟨pb,0,none⟩ with|some (.slice _ n _)=>n|_=>0
theorem Zeb {w:World}{pb L en d at_:Nat}{ts:List Tk}{bad:Bool}(h:PsAt w pb L ts en d bad at_):mesP pb w=ts.length:=by
 obtain⟨A,n,c,h⟩:=h;have c0:w.cell? ⟨pb,0,none⟩=some (.slice A n c):=h.blk.cell 0;unfold mesP;rw[c0,h.len]
theorem PartsOk.single {w:World}{B M:Nat}{v:Value}(h:PartsOk w B [v] M):Okv w B M v:=by
 generalize hg:[v]=gs at h;cases h with
 | nil=>cases hg
 | @snoc vs' M' N u h' hu=>
  obtain⟨e1,rfl⟩:=Zex (a:=[]) (b:=vs') (x:=v) (y:=u) hg;subst e1;generalize hg2:([]:List Value)=g2 at h';cases h' with
  | nil=>rw[Nat.zero_add];exact hu
  | snoc h2 hu2=>simp at hg2
theorem Flat.single {w:World}{B k:Nat}{vs us:List Value}{v:Value}{M:Nat}(hk:k<2)(h:Flat w B k vs us)(hu:us = [v])(hp:PartsOk w B vs M)(h1:1<=vs.length):vs = [v]:=by
 cases h with
 | nil=>simp at h1
 | @row vs' us' xs A m c hf' hr=>
  exfalso;obtain⟨N,hok⟩:=hp.at (k:=vs'.length) (v:=.iface (rowT k) (.agg #[.slice A m c])) (by simp);have hlen:(us'++xs).length=1:=by rw[hu];rfl
  rw[List.length_append,hr.len]at hlen;obtain⟨_,_,e|⟨t,x,e,h3,h4⟩|⟨k',A',m',c',xs',hk',e,hr',hm,hm2⟩⟩:=hok
  ·cases e
  ·injection e with e1 e2;rcases (show k=0\/k=1 by omega) with rfl|rfl
   ·exact absurd e1.symm h3
   ·exact absurd e1.symm h4
  ·injection e with e1 e2;have e3:(#[Value.slice A m c]:Array Value)=#[.slice A' m' c']:=by injection e2
   have e4:Value.slice A m c = .slice A' m' c':=by simpa using e3
   injection e4 with e5 e6 e7;omega
 | @one vs' us' u hf' hu'=>
  have e1:us' = []/\u=v:=Zex (a:=us') (b:=[]) (x:=u) (y:=v) hu;obtain⟨rfl,rfl⟩:=e1;obtain⟨M',hp',_⟩:=hp.take vs'.length;rw[List.take_left']at hp'
  ·have:=(hf'.few hk hp').2.1;simp at this;subst this
   rfl
  ·rfl
theorem RowIs.fin {k B pb L en d at_:Nat}{g:Option Nat}{ts:List Tk}{w w' w2:World}{vs:List Value}{M:Nat}{ok:Bool}{ts1:List Tk}{ms:List Nd}{at1:Nat}(hk:k<2)(h:RowIs k B pb L en d at_ g ts w w' vs M ok ts1 ms at1)(hn:ok=false\/hd (tx ts1)≠wordOf k)(hb:Below w'.heap.size w' w2){v:Value}{us:List Value}(hf:Flat w' B k vs us)(hv:us = [v]\/(2<=us.length/\∃A' c',v = .iface (rowT k) (.agg #[.slice A' us.length c'])/\RowV w2 B A' us.length c' us)):ParPost k B pb L en d at_ ts w (.returned v) w2:=by
 have hP:=h.row.last hn;have hfew:=hf.few hk h.parts;have hM:=h.few;have hl:=h.less;refine⟨v,ok,ts1,ms,at1,rfl,⟨hP,h.less,h.drop,?_,h.ps.below hb,h.at1,fun ho=>?_,h.kept.below hb h.kept.size⟩⟩
 ·rcases hv with hu|⟨h2,A',c',rfl,hr⟩
  ·have hvs:=hf.single hk hu h.parts h.one;have hp:=h.parts;rw[hvs]at hp;have:=hp.single.keep hb.size (fun i hi _=>hb.block i hi);rw[show 1+ts.length - ts1.length=M by omega];exact this
  ·exact⟨by omega,rfl,Or.inr (Or.inr ⟨k,A',us.length,c',us,hk,rfl,hr,h2,by omega⟩)⟩
 ·obtain⟨n1,n2⟩:=h.nd ho;obtain⟨f1,f2⟩:=hf.nodes hk n1 (hP.nf ho).2 n2;have e:nodeOf k ms=mkRow k (ms.flatMap (parts' k)):=if_pos hk;rw[e];generalize ms.flatMap (parts' k)=l at f1 f2;rcases hv with rfl|⟨h2,A',c',rfl,hr⟩
  ·obtain⟨n,rfl⟩:∃n,l = [n]:=List.length_eq_one_iff.1 f1;exact (f2 0 n v rfl rfl).under hb
  ·have hm:mkRow k l = .row k l:=by
    match l,f1 with
    | [],h3=>rfl
    | [n],h3=>simp at h3;omega
    | a::b::r,_=>rfl
   rw[hm];exact .row hr f1 (fun i n u hn hu=>(f2 i n u hn hu).under hb)
theorem or_of (ts:List Tk)(hsub:∀ts',ts'.length<=ts.length->ParOk 50 (0+1) ts'):ParOk 18 0 ts:=by
 intro B pb L en d at_ w hpb hLB hB hd40 hlen hsz hps hge;obtain⟨i0,hi0,hz0,hz1,hz2⟩:=info_parts Zgz;have Hand:=zh hsub;have HSZ:=zh hsz;have HGE:=zh hge;have HPL:Hid (pb<w.heap.size):=zh hps.lt;have HBP:Hid (∀{V:World},Kept (fun i=>i=pb) w V->Below pb w V):=zh (fun k=>k.toBelow (fun i hi=>by omega) (Nat.le_of_lt hps.lt));have HCO:=zh (hsub ts (zr _) B pb L en d at_ w hpb hLB hB hd40 hlen hsz hps hge);clear hsub hsz hge hps;go_enter Tryz.func18,Tryz.ntmps18;go_wp2_with fail;refine HCO.o.mono ?_;rintro e w1 ⟨v,ok,ts1,ns,at1,rfl,hpi⟩;have HR0:Hid (RowIs 0 B pb L en d at_ (some w1.heap.size) ts w w1 [v] (1+ts.length - ts1.length) ok ts1 [nodeOf (0+1) ns] at1):=zh (RowIs.start (by omega) (fun j hj=>by injection hj with hj;omega) hpi);have hvf:=Zdv hpi.okv;have HV1:Hid (∀u∈[v],u.oneCell'=true):=zh (fun u hu=>by simp at hu;subst hu;exact hpi.okv.2.1);have HS1:Hid (w.heap.size<=w1.heap.size):=zh hpi.kept.size;clear hpi HCO;obtain⟨w2,hw2⟩:=zG (w1.alloc (.cells #[v] 82))
 have HO2:Hid (w2.ownsRow w.heap.size 82 1 (.slice (some ⟨w1.heap.size,0,none⟩) 1 1) 1 [v]):=zh (by
  rw[<-hw2];exact⟨by simp,Or.inr ⟨w1.heap.size,1,#[v],rfl,HS1.o,heap_alloc_new w1 _,zr _,by decide,by simp,by simp⟩⟩)
 have HR2:Hid (RowIs 0 B pb L en d at_ (some w1.heap.size) ts w w2 [v] (1+ts.length - ts1.length) ok ts1 [nodeOf (0+1) ns] at1):=zh (HR0.o.below (by rw[<-hw2];exact (Below.refl _ _).alloc (zr _) _));have HST:Hid ((∃(n c:Nat) (A:Option Addr) (vs:List Value) (M:Nat) (ok:Bool) (ts1:List Tk) (ms:List Nd) (at1:Nat),Value.slice (some ⟨w1.heap.size,0,none⟩) 1 1 = .slice A n c/\Hid (vs.length=n)/\Hid (∀u∈vs,u.oneCell'=true)/\Hid (w2.ownsRow w.heap.size 82 1 (.slice A n c) n vs)/\Hid (RowIs 0 B pb L en d at_ (Value.slice A n c).ownBlock ts w w2 vs M ok ts1 ms at1))):=zh ⟨1,1,_,[v],_,ok,ts1,_,at1,rfl,zh rfl,HV1,HO2,HR2⟩;have hgo:Value.slice (some ⟨w1.heap.size,0,none⟩) 1 1 = .slice (some ⟨w1.heap.size,0,none⟩) 1 1:=rfl;clear HR0 HV1 HS1 HO2 HR2 hgo;rcases hvf with rfl|⟨tv,xv,rfl⟩
 all_goals
  go_wp2_with fail;clear hw2;go_loopw [3] (fun v3 wr=>∃(n c:Nat) (A:Option Addr) (vs:List Value) (M:Nat) (ok:Bool) (ts1:List Tk) (ms:List Nd) (at1:Nat),v3 = .slice A n c/\Hid (vs.length=n)/\Hid (∀u∈vs,u.oneCell'=true)/\Hid (wr.ownsRow w.heap.size 82 1 (.slice A n c) n vs)/\Hid (RowIs 0 B pb L en d at_ (Value.slice A n c).ownBlock ts w wr vs M ok ts1 ms at1)) (fun _ wr=>mesP pb wr)
  case atStart=>exact HST.o
  case round=>
   clear HST;obtain⟨n,c,A,vs,M,ok,ts1,ms,at1,rfl,hn,hone,hown,hri⟩:=hrel;have HP:=zh hri.o.ps;have HPB:Hid (Below pb w wr):=zh (HBP.o hri.o.kept);have HME:Hid (mesP pb wr=ts1.length):=zh (Zeb hri.o.ps);have hnl:n<=3001:=by
    have h1:=Zdu hri.o.parts;have h2:=hri.o.few;rw[hn.o]at h1;omega
   have HRV:Hid (∀W,Below wr.heap.size wr W->RowV W B A n c vs):=zh (fun W hW=>by
    have h0:RowV wr B A n c vs:=by
     refine⟨RowIn.of_own hown.o,hn.o,fun g' o' e=>?_,fun e=>?_,hone.o⟩
     ·have:=(hown.o.lt g' (by rw[e];rfl)).1;omega
     ·obtain⟨g7,cap,hv7,_⟩:=hown.o.form (by have:=hri.o.one;have:=hn.o;omega);injection hv7 with hA _ _;rw[e]at hA;cases hA
    exact h0.keep hW.size (fun i hi _=>hW.block i hi))
   have HEND:Hid ((ok=false\/hd (tx ts1)≠wordOf 0)->∀W,Below wr.heap.size wr W->Calls Tryz.prog 53 #[.slice A n c] W fun e w'=>ParPost 0 B pb L en d at_ ts w e w'):=zh (fun hno W hW=>by
    have hri2:=hri.o.below hW;refine (Zpl B n c M A vs W (HRV.o W hW) (by have:=hri.o.one;have:=hn.o;omega) hri2.parts (by have:=hri.o.few;omega) (Nat.le_trans hB (Nat.le_trans hri.o.kept.size hW.size))).mono ?_;rintro e w' ⟨v,us,rfl,hf,hb,hv⟩;exact hri2.fin (by omega) hno hb hf hv)
   clear HRV;cases ok
   ·have HNX:=zh (Zgx pb en d at1 ts1 wr HP.o);have HEN2:=zh (HEND.o (Or.inl rfl));clear HEND;go_wp2_with fail;refine HNX.o.mono ?_;rintro e w4 ⟨rfl,hb4⟩;have HX:=zh (HEN2.o w4 hb4);clear HEN2 hb4;go_wp2_with fail;refine HX.o.mono ?_;rintro e w5 ⟨v,ok5,ts5,ns5,at5,rfl,hpi⟩;have HPI:=zh hpi;clear hpi;go_wp2_with fail;go_ret;exact⟨v,ok5,ts5,ns5,at5,rfl,HPI.o⟩
   ·have HNX:=zh (Zdt pb en d at1 ts1 wr HP.o);obtain⟨wd,hwd⟩:=zG (hd (tx ts1));have HWD:=zh hwd;rw[hwd]at HNX;clear hwd;by_cases hw:wd=wordOf 0
    ·have q1:(wd.toList == [111,114])=true:=Zbm hw;have HHW:=zh (HWD.o.trans hw);obtain⟨t,r,rfl,_,_⟩:=Zea HHW.o (by decide);clear hw HEND;go_wp2_with fail;refine HNX.o.mono ?_;rintro e w4 ⟨rfl,hb4⟩;have HB4:=zh hb4;have HT4:=zh (Zc4 pb en d at1 t r w4 (HP.o.below hb4));clear hb4;go_wp2_with fail;refine HT4.o.mono ?_;rintro e w5 ⟨rfl,hp5,hk5⟩;have HP5:=zh hp5;have HK5:Hid (Kept (fun i=>i=pb) wr w5):=zh ((below_kept HB4.o).trans' hk5 (fun i _ hi=>hi));have hat:at1=at_:=by have:=hri.o.at1;simpa using this
     have HC5:=zh (Hand.o r (by have:=hri.o.less;simp at this;omega) w5.heap.size pb L en d at1 w5 (by have:=hri.o.kept.size;have:=HK5.o.size;omega) (by have:=hri.o.kept.size;have:=HK5.o.size;omega) (zr _) hd40 (by have:=hri.o.less;simp at this;omega) (fun x hx=>by
      obtain⟨j,hj⟩:=hri.o.drop;exact HSZ.o x (List.mem_of_mem_drop (i:=j) (by rw[<-hj];simp[hx]))) hp5 (fun V hV=>HGE.o V ((HPB.o.trans (HK5.o.toBelow (fun i hi=>by omega) (by have:=HPL.o;have:=HPB.o.size;omega))).trans hV)))
     clear hp5 hk5 HT4 hat;go_wp2_with fail;refine HC5.o.mono ?_;rintro e w6 ⟨v,ok6,ts6,ns6,at6,rfl,hpi⟩;have HPI6:=zh hpi;have HK6:Hid (Kept (fun i=>i=pb) wr w6):=zh (HK5.o.trans' hpi.kept (fun i _ hi=>hi));have HO6:Hid (w6.ownsRow w.heap.size 82 1 (.slice A n c) n vs):=zh (Zkk hown.o HK6.o (fun i hi=>by have:=HPL.o;omega));have HV6:Hid (∀u∈[v],u.oneCell'=true):=zh (fun u hu=>by simp at hu;subst hu;exact hpi.okv.2.1);have hvf6:=Zdv hpi.okv;have hz6:w.heap.size<=w6.heap.size:=Nat.le_trans hri.o.kept.size HK6.o.size;have HL6:Hid (ts6.length<=r.length):=zh hpi.less;clear hpi HC5;rcases hvf6 with rfl|⟨tv6,xv6,rfl⟩
     ·go_wp2_with (first
       | (at_builtin;refine Zaa _ rfl _ _ 124 rfl w.heap.size 82 i0 _ 1 16 Tryz.underlying124 hi0 hz0 hz1 hz2 rfl (by omega) (.slice A n c) n _ rfl (HO6.o.alloc _) (w6.heap.size+1) (some ⟨w6.heap.size,0,none⟩) 1 1 [.nilIface] rfl (Zen w6 .nilIface _ rfl) (fun h=>by cases h) HV6.o (by unfold maxLen;omega) (by omega) (by simp;omega) ?_;intro v7 w7 ho7 hg7 hv7))
      obtain⟨A7,c7,hr7⟩:=own_shape ho7;subst hr7;have HR7:Hid (RowIs 0 B pb L en d at_ (Value.slice A7 (n+1) c7).ownBlock ts w w7 (vs++[.nilIface]) (M+(1+r.length - ts6.length)) ok6 ts6 (ms++[nodeOf (0+1) ns6]) at6):=zh (hri.o.next (by omega) hpb hLB hB HHW.o (fun j hj=>(hown.o.lt j hj).2) HK5.o.size HK5.o HPI6.o hg7 hv7);have HM7:Hid (mesP pb w7=ts6.length):=zh (Zeb HR7.o.ps);go_wp2_with fail;go_roundw
      case rel=>exact⟨n+1,c7,A7,vs++[.nilIface],_,ok6,ts6,_,at6,rfl,zh (by rw[List.length_append,hn.o];rfl),zh (fun u hu=>by rcases List.mem_append.1 hu with hu|hu;exact hone.o u hu;exact HV6.o u hu),zh ho7,HR7⟩
      case measure=>rw[HM7.o,HME.o];have:=HL6.o;simp;omega
     ·go_wp2_with (first
       | (at_builtin;refine Zaa _ rfl _ _ 124 rfl w.heap.size 82 i0 _ 1 16 Tryz.underlying124 hi0 hz0 hz1 hz2 rfl (by omega) (.slice A n c) n _ rfl (HO6.o.alloc _) (w6.heap.size+1) (some ⟨w6.heap.size,0,none⟩) 1 1 [(.iface tv6 xv6)] rfl (Zen w6 (.iface tv6 xv6) _ rfl) (fun h=>by cases h) HV6.o (by unfold maxLen;omega) (by omega) (by simp;omega) ?_;intro v7 w7 ho7 hg7 hv7))
      obtain⟨A7,c7,hr7⟩:=own_shape ho7;subst hr7;have HR7:Hid (RowIs 0 B pb L en d at_ (Value.slice A7 (n+1) c7).ownBlock ts w w7 (vs++[(.iface tv6 xv6)]) (M+(1+r.length - ts6.length)) ok6 ts6 (ms++[nodeOf (0+1) ns6]) at6):=zh (hri.o.next (by omega) hpb hLB hB HHW.o (fun j hj=>(hown.o.lt j hj).2) HK5.o.size HK5.o HPI6.o hg7 hv7);have HM7:Hid (mesP pb w7=ts6.length):=zh (Zeb HR7.o.ps);go_wp2_with fail;go_roundw
      case rel=>exact⟨n+1,c7,A7,vs++[(.iface tv6 xv6)],_,ok6,ts6,_,at6,rfl,zh (by rw[List.length_append,hn.o];rfl),zh (fun u hu=>by rcases List.mem_append.1 hu with hu|hu;exact hone.o u hu;exact HV6.o u hu),zh ho7,HR7⟩
      case measure=>rw[HM7.o,HME.o];have:=HL6.o;simp;omega
    ·have q1:(wd.toList == [111,114])=false:=Zbg hw;have HEN2:=zh (HEND.o (Or.inr (fun e=>hw (HWD.o.symm.trans e))));clear HEND hw;go_wp2_with fail;refine HNX.o.mono ?_;rintro e w4 ⟨rfl,hb4⟩;have HX:=zh (HEN2.o w4 hb4);clear HEN2 hb4;go_wp2_with fail;refine HX.o.mono ?_;rintro e w5 ⟨v,ok5,ts5,ns5,at5,rfl,hpi⟩;have HPI:=zh hpi;clear hpi;go_wp2_with fail;go_ret;exact⟨v,ok5,ts5,ns5,at5,rfl,HPI.o⟩
theorem Ztw (ts:List Tk)(hsub:∀ts',ts'.length<=ts.length->ParOk 98 (1+1) ts'):ParOk 50 1 ts:=by
 intro B pb L en d at_ w hpb hLB hB hd40 hlen hsz hps hge;obtain⟨i0,hi0,hz0,hz1,hz2⟩:=info_parts Zgz;have Hnot:=zh hsub;have HSZ:=zh hsz;have HGE:=zh hge;have HPL:Hid (pb<w.heap.size):=zh hps.lt;have HBP:Hid (∀{V:World},Kept (fun i=>i=pb) w V->Below pb w V):=zh (fun k=>k.toBelow (fun i hi=>by omega) (Nat.le_of_lt hps.lt));have HCO:=zh (hsub ts (zr _) B pb L en d at_ w hpb hLB hB hd40 hlen hsz hps hge);clear hsub hsz hge hps;go_enter Tryz.func50,Tryz.ntmps50;go_wp2_with fail;refine HCO.o.mono ?_;rintro e w1 ⟨v,ok,ts1,ns,at1,rfl,hpi⟩;have HR0:Hid (RowIs 1 B pb L en d at_ (some w1.heap.size) ts w w1 [v] (1+ts.length - ts1.length) ok ts1 [nodeOf (1+1) ns] at1):=zh (RowIs.start (by omega) (fun j hj=>by injection hj with hj;omega) hpi);have hvf:=Zdv hpi.okv;have HV1:Hid (∀u∈[v],u.oneCell'=true):=zh (fun u hu=>by simp at hu;subst hu;exact hpi.okv.2.1);have HS1:Hid (w.heap.size<=w1.heap.size):=zh hpi.kept.size;clear hpi HCO;obtain⟨w2,hw2⟩:=zG (w1.alloc (.cells #[v] 82))
 have HO2:Hid (w2.ownsRow w.heap.size 82 1 (.slice (some ⟨w1.heap.size,0,none⟩) 1 1) 1 [v]):=zh (by
  rw[<-hw2];exact⟨by simp,Or.inr ⟨w1.heap.size,1,#[v],rfl,HS1.o,heap_alloc_new w1 _,zr _,by decide,by simp,by simp⟩⟩)
 have HR2:Hid (RowIs 1 B pb L en d at_ (some w1.heap.size) ts w w2 [v] (1+ts.length - ts1.length) ok ts1 [nodeOf (1+1) ns] at1):=zh (HR0.o.below (by rw[<-hw2];exact (Below.refl _ _).alloc (zr _) _));have HST:Hid ((∃(n c:Nat) (A:Option Addr) (vs:List Value) (M:Nat) (ok:Bool) (ts1:List Tk) (ms:List Nd) (at1:Nat),Value.slice (some ⟨w1.heap.size,0,none⟩) 1 1 = .slice A n c/\Hid (vs.length=n)/\Hid (∀u∈vs,u.oneCell'=true)/\Hid (w2.ownsRow w.heap.size 82 1 (.slice A n c) n vs)/\Hid (RowIs 1 B pb L en d at_ (Value.slice A n c).ownBlock ts w w2 vs M ok ts1 ms at1))):=zh ⟨1,1,_,[v],_,ok,ts1,_,at1,rfl,zh rfl,HV1,HO2,HR2⟩;have hgo:Value.slice (some ⟨w1.heap.size,0,none⟩) 1 1 = .slice (some ⟨w1.heap.size,0,none⟩) 1 1:=rfl;clear HR0 HV1 HS1 HO2 HR2 hgo;rcases hvf with rfl|⟨tv,xv,rfl⟩
 all_goals
  go_wp2_with fail;clear hw2;go_loopw [3] (fun v3 wr=>∃(n c:Nat) (A:Option Addr) (vs:List Value) (M:Nat) (ok:Bool) (ts1:List Tk) (ms:List Nd) (at1:Nat),v3 = .slice A n c/\Hid (vs.length=n)/\Hid (∀u∈vs,u.oneCell'=true)/\Hid (wr.ownsRow w.heap.size 82 1 (.slice A n c) n vs)/\Hid (RowIs 1 B pb L en d at_ (Value.slice A n c).ownBlock ts w wr vs M ok ts1 ms at1)) (fun _ wr=>mesP pb wr)
  case atStart=>exact HST.o
  case round=>
   clear HST;obtain⟨n,c,A,vs,M,ok,ts1,ms,at1,rfl,hn,hone,hown,hri⟩:=hrel;have HP:=zh hri.o.ps;have HPB:Hid (Below pb w wr):=zh (HBP.o hri.o.kept);have HME:Hid (mesP pb wr=ts1.length):=zh (Zeb hri.o.ps);have hnl:n<=3001:=by
    have h1:=Zdu hri.o.parts;have h2:=hri.o.few;rw[hn.o]at h1;omega
   have HRV:Hid (∀W,Below wr.heap.size wr W->RowV W B A n c vs):=zh (fun W hW=>by
    have h0:RowV wr B A n c vs:=by
     refine⟨RowIn.of_own hown.o,hn.o,fun g' o' e=>?_,fun e=>?_,hone.o⟩
     ·have:=(hown.o.lt g' (by rw[e];rfl)).1;omega
     ·obtain⟨g7,cap,hv7,_⟩:=hown.o.form (by have:=hri.o.one;have:=hn.o;omega);injection hv7 with hA _ _;rw[e]at hA;cases hA
    exact h0.keep hW.size (fun i hi _=>hW.block i hi))
   have HEND:Hid ((ok=false\/hd (tx ts1)≠wordOf 1)->∀W,Below wr.heap.size wr W->Calls Tryz.prog 99 #[.slice A n c] W fun e w'=>ParPost 1 B pb L en d at_ ts w e w'):=zh (fun hno W hW=>by
    have hri2:=hri.o.below hW;refine (Zm7 B n c M A vs W (HRV.o W hW) (by have:=hri.o.one;have:=hn.o;omega) hri2.parts (by have:=hri.o.few;omega) (Nat.le_trans hB (Nat.le_trans hri.o.kept.size hW.size))).mono ?_;rintro e w' ⟨v,us,rfl,hf,hb,hv⟩;exact hri2.fin (by omega) hno hb hf hv)
   clear HRV;cases ok
   ·have HNX:=zh (Zgx pb en d at1 ts1 wr HP.o);have HEN2:=zh (HEND.o (Or.inl rfl));clear HEND;go_wp2_with fail;refine HNX.o.mono ?_;rintro e w4 ⟨rfl,hb4⟩;have HX:=zh (HEN2.o w4 hb4);clear HEN2 hb4;go_wp2_with fail;refine HX.o.mono ?_;rintro e w5 ⟨v,ok5,ts5,ns5,at5,rfl,hpi⟩;have HPI:=zh hpi;clear hpi;go_wp2_with fail;go_ret;exact⟨v,ok5,ts5,ns5,at5,rfl,HPI.o⟩
   ·have HNX:=zh (Zdt pb en d at1 ts1 wr HP.o);obtain⟨wd,hwd⟩:=zG (hd (tx ts1));have HWD:=zh hwd;rw[hwd]at HNX;clear hwd;by_cases hw:wd=wordOf 1
    ·have q1:(wd.toList == [97,110,100])=true:=Zbm hw;have HHW:=zh (HWD.o.trans hw);obtain⟨t,r,rfl,_,_⟩:=Zea HHW.o (by decide);clear hw HEND;go_wp2_with fail;refine HNX.o.mono ?_;rintro e w4 ⟨rfl,hb4⟩;have HB4:=zh hb4;have HT4:=zh (Zc4 pb en d at1 t r w4 (HP.o.below hb4));clear hb4;go_wp2_with fail;refine HT4.o.mono ?_;rintro e w5 ⟨rfl,hp5,hk5⟩;have HP5:=zh hp5;have HK5:Hid (Kept (fun i=>i=pb) wr w5):=zh ((below_kept HB4.o).trans' hk5 (fun i _ hi=>hi));have hat:at1=at_:=by have:=hri.o.at1;simpa using this
     have HC5:=zh (Hnot.o r (by have:=hri.o.less;simp at this;omega) w5.heap.size pb L en d at1 w5 (by have:=hri.o.kept.size;have:=HK5.o.size;omega) (by have:=hri.o.kept.size;have:=HK5.o.size;omega) (zr _) hd40 (by have:=hri.o.less;simp at this;omega) (fun x hx=>by
      obtain⟨j,hj⟩:=hri.o.drop;exact HSZ.o x (List.mem_of_mem_drop (i:=j) (by rw[<-hj];simp[hx]))) hp5 (fun V hV=>HGE.o V ((HPB.o.trans (HK5.o.toBelow (fun i hi=>by omega) (by have:=HPL.o;have:=HPB.o.size;omega))).trans hV)))
     clear hp5 hk5 HT4 hat;go_wp2_with fail;refine HC5.o.mono ?_;rintro e w6 ⟨v,ok6,ts6,ns6,at6,rfl,hpi⟩;have HPI6:=zh hpi;have HK6:Hid (Kept (fun i=>i=pb) wr w6):=zh (HK5.o.trans' hpi.kept (fun i _ hi=>hi));have HO6:Hid (w6.ownsRow w.heap.size 82 1 (.slice A n c) n vs):=zh (Zkk hown.o HK6.o (fun i hi=>by have:=HPL.o;omega));have HV6:Hid (∀u∈[v],u.oneCell'=true):=zh (fun u hu=>by simp at hu;subst hu;exact hpi.okv.2.1);have hvf6:=Zdv hpi.okv;have hz6:w.heap.size<=w6.heap.size:=Nat.le_trans hri.o.kept.size HK6.o.size;have HL6:Hid (ts6.length<=r.length):=zh hpi.less;clear hpi HC5;rcases hvf6 with rfl|⟨tv6,xv6,rfl⟩
     ·go_wp2_with (first
       | (at_builtin;refine Zaa _ rfl _ _ 124 rfl w.heap.size 82 i0 _ 1 16 Tryz.underlying124 hi0 hz0 hz1 hz2 rfl (by omega) (.slice A n c) n _ rfl (HO6.o.alloc _) (w6.heap.size+1) (some ⟨w6.heap.size,0,none⟩) 1 1 [.nilIface] rfl (Zen w6 .nilIface _ rfl) (fun h=>by cases h) HV6.o (by unfold maxLen;omega) (by omega) (by simp;omega) ?_;intro v7 w7 ho7 hg7 hv7))
      obtain⟨A7,c7,hr7⟩:=own_shape ho7;subst hr7;have HR7:Hid (RowIs 1 B pb L en d at_ (Value.slice A7 (n+1) c7).ownBlock ts w w7 (vs++[.nilIface]) (M+(1+r.length - ts6.length)) ok6 ts6 (ms++[nodeOf (1+1) ns6]) at6):=zh (hri.o.next (by omega) hpb hLB hB HHW.o (fun j hj=>(hown.o.lt j hj).2) HK5.o.size HK5.o HPI6.o hg7 hv7);have HM7:Hid (mesP pb w7=ts6.length):=zh (Zeb HR7.o.ps);go_wp2_with fail;go_roundw
      case rel=>exact⟨n+1,c7,A7,vs++[.nilIface],_,ok6,ts6,_,at6,rfl,zh (by rw[List.length_append,hn.o];rfl),zh (fun u hu=>by rcases List.mem_append.1 hu with hu|hu;exact hone.o u hu;exact HV6.o u hu),zh ho7,HR7⟩
      case measure=>rw[HM7.o,HME.o];have:=HL6.o;simp;omega
     ·go_wp2_with (first
       | (at_builtin;refine Zaa _ rfl _ _ 124 rfl w.heap.size 82 i0 _ 1 16 Tryz.underlying124 hi0 hz0 hz1 hz2 rfl (by omega) (.slice A n c) n _ rfl (HO6.o.alloc _) (w6.heap.size+1) (some ⟨w6.heap.size,0,none⟩) 1 1 [(.iface tv6 xv6)] rfl (Zen w6 (.iface tv6 xv6) _ rfl) (fun h=>by cases h) HV6.o (by unfold maxLen;omega) (by omega) (by simp;omega) ?_;intro v7 w7 ho7 hg7 hv7))
      obtain⟨A7,c7,hr7⟩:=own_shape ho7;subst hr7;have HR7:Hid (RowIs 1 B pb L en d at_ (Value.slice A7 (n+1) c7).ownBlock ts w w7 (vs++[(.iface tv6 xv6)]) (M+(1+r.length - ts6.length)) ok6 ts6 (ms++[nodeOf (1+1) ns6]) at6):=zh (hri.o.next (by omega) hpb hLB hB HHW.o (fun j hj=>(hown.o.lt j hj).2) HK5.o.size HK5.o HPI6.o hg7 hv7);have HM7:Hid (mesP pb w7=ts6.length):=zh (Zeb HR7.o.ps);go_wp2_with fail;go_roundw
      case rel=>exact⟨n+1,c7,A7,vs++[(.iface tv6 xv6)],_,ok6,ts6,_,at6,rfl,zh (by rw[List.length_append,hn.o];rfl),zh (fun u hu=>by rcases List.mem_append.1 hu with hu|hu;exact hone.o u hu;exact HV6.o u hu),zh ho7,HR7⟩
      case measure=>rw[HM7.o,HME.o];have:=HL6.o;simp;omega
    ·have q1:(wd.toList == [97,110,100])=false:=Zbg hw;have HEN2:=zh (HEND.o (Or.inr (fun e=>hw (HWD.o.symm.trans e))));clear HEND hw;go_wp2_with fail;refine HNX.o.mono ?_;rintro e w4 ⟨rfl,hb4⟩;have HX:=zh (HEN2.o w4 hb4);clear HEN2 hb4;go_wp2_with fail;refine HX.o.mono ?_;rintro e w5 ⟨v,ok5,ts5,ns5,at5,rfl,hpi⟩;have HPI:=zh hpi;clear hpi;go_wp2_with fail;go_ret;exact⟨v,ok5,ts5,ns5,at5,rfl,HPI.o⟩
end Go.Proofs.YtnpfaajhgghpgaaGreatDoor.Ru
namespace Go.Proofs.YtnpfaajhgghpgaaGreatDoor.Ru
open Go.RowKit Go.Maps Go.Shelf
theorem Zpo (n:Nat):∀ts:List Tk,ts.length<=n->ParOk 98 2 ts/\ParOk 18 0 ts:=by
 have lift:∀n,(∀ts:List Tk,ts.length<=n->ParOk 98 2 ts)->∀ts:List Tk,ts.length<=n->ParOk 18 0 ts:=fun n h ts hl=>
  or_of ts (fun ts' h'=>Ztw ts' (fun ts2 h2=>h ts2 (by omega)))
 induction n with
 | zero=>
  have h:∀ts:List Tk,ts.length<=0->ParOk 98 2 ts:=fun ts hl=>Zrk ts (fun ts' h'=>by omega) (fun ts' h'=>by omega);exact fun ts hl=>⟨h ts hl,lift 0 h ts hl⟩
 | succ n ih=>
  have h:∀ts:List Tk,ts.length<=n+1->ParOk 98 2 ts:=fun ts hl=>Zrk ts (fun ts' h'=>(ih ts' (by omega)).2) (fun ts' h'=>(ih ts' (by omega)).1);exact fun ts hl=>⟨h ts hl,lift (n+1) h ts hl⟩
theorem or_any (ts:List Tk):ParOk 18 0 ts:=(Zpo ts.length ts (zr _)).2
theorem Zh4 (s:ByteArray)(i fr:Nat):(wordT s i fr).length=if fr<i then 1 else 0:=by
 unfold wordT;split <;> rfl
theorem Zg1 (s:ByteArray):∀(f i fr:Nat),f=s.size - i->fr<=i->i<=s.size->(tokF s f i fr).length<=s.size - fr
 | 0,i,fr,hf,h1,h2=>by
  rw[tokF,Zh4];split <;> omega
 | f+1,i,fr,hf,h1,h2=>by
  rw[tokF];split
  ·rw[List.length_append,List.length_append,Zh4];have h3:=Zg1 s f (i+1) (i+1) (by omega) (zr _) (by omega);have h4:(signT s i).length<=1:=by unfold signT;split <;> simp
   split <;> omega
  ·exact Zg1 s f (i+1) fr (by omega) (by omega) (by omega)
theorem Zpp (s:ByteArray):(toks s).length<=s.size:=Zg1 s _ 0 0 rfl (zr _) (Nat.zero_le _)
theorem Zg2 (s:ByteArray):∀(f i fr:Nat),∀t∈tokF s f i fr,t.1.size<=s.size
 | 0,i,fr,t,ht=>by
  rw[tokF]at ht;unfold wordT at ht;split at ht
  ·rw[List.mem_singleton]at ht;subst ht;simp[ByteArray.size_extract];omega
  ·cases ht
 | f+1,i,fr,t,ht=>by
  rw[tokF]at ht;split at ht
  ·rcases List.mem_append.1 ht with ht|ht
   ·rcases List.mem_append.1 ht with ht|ht
    ·unfold wordT at ht;split at ht
     ·rw[List.mem_singleton]at ht;subst ht;simp[ByteArray.size_extract];omega
     ·cases ht
    ·unfold signT at ht;split at ht
     ·cases ht
     ·rw[List.mem_singleton]at ht;subst ht;simp[ByteArray.size_extract];omega
   ·exact Zg2 s f _ _ t ht
  ·exact Zg2 s f _ _ t ht
theorem Zpq (s:ByteArray):∀t∈toks s,t.1.size<=s.size:=Zg2 s _ 0 0
inductive Says (s:ByteArray):Option (Option Nd)->Nat->Prop
 | long (h:2000<s.size):Says s none 0
 | empty (h:s.size<=2000) (h0:toks s = []):Says s (some none) 0
 | good {ns:List Nd} (h:s.size<=2000) (h0:toks s≠[]) (hp:P 0 0 (tx (toks s)) true [] ns):Says s (some (some (nodeOf 0 ns))) 0
 | bad {ok:Bool} {j:Nat} {ns:List Nd} (h:s.size<=2000) (h0:toks s≠[]) (hp:P 0 0 (tx (toks s)) ok (tx ((toks s).drop j)) ns) (hn:ok=false\/(toks s).drop j≠[]):Says s none (place ((toks s).drop j) s.size)
def errOf (r:Option (Option Nd)):Int:=if r.isNone then 11 else 0
def RuleV (w:World)(B:Nat):Option (Option Nd)->Value->Prop
 | none,v=>v = .pointer none
 | some none,v=>∃g,v = .pointer (some ⟨g,0,none⟩)/\B<=g/\Blk w g 84 #[.nilIface]
 | some (some n),v=>NF n/\∃g u,v = .pointer (some ⟨g,0,none⟩)/\B<=g/\Blk w g 84 #[u]/\NdAt w B n u
theorem RuleV.keep {w w':World}{B:Nat}{r:Option (Option Nd)}{v:Value}(h:RuleV w B r v)(hs:w.heap.size<=w'.heap.size)(hb:∀i,i<w.heap.size->B<=i->w'.heap[i]? = w.heap[i]?):RuleV w' B r v:=by
 match r,h with
 | none,h=>exact h
 | some none,⟨g,e,hg,hB⟩=>exact⟨g,e,hg,(hb g hB.lt hg).trans hB⟩
 | some (some n),⟨hn,g,u,e,hg,hB,hu⟩=>exact⟨hn,g,u,e,hg,(hb g hB.lt hg).trans hB,hu.keep hs hb⟩
theorem RuleV.below {w w':World}{B:Nat}{r:Option (Option Nd)}{v:Value}(h:RuleV w B r v)(hb:Below w.heap.size w w'):RuleV w' B r v:=h.keep hb.size (fun i hi _=>hb.block i hi)
def ParseR (s:ByteArray)(w:World)(e:Ending)(w':World):Prop:=∃r at_ v,Says s r at_/\e = .returned (.tuple #[v,.int .i64 (at_:Nat),.int .i64 (errOf r)])/\RuleV w' w.heap.size r v/\Below w.heap.size w w'
theorem parse_any (s:ByteArray)(w:World)(hs:s.size<=1000000)(hge:∀V,Below w.heap.size w V->ErrAt V/\TabAt V) :
  Calls Tryz.prog 9 #[.string s] w fun e w'=>ParseR s w e w':=by
 have HGE:=zh hge;have HTK:=zh (Zlg s w hs);have HL:=zh (Zpp s);have HM:=zh (Zpq s);obtain⟨n,hn⟩:=zG ((toks s).length);rw[hn]at HTK HL;have HN:=zh hn;clear hge hn;go_enter Tryz.func9,Tryz.ntmps9;by_cases h2:2000<s.size
 ·have HF:Hid (ParseR s w (.returned (.tuple #[.pointer none,.int .i64 0,.int .i64 11])) w):=zh ⟨none,0,_,.long h2,rfl,rfl,Below.refl _ _⟩;have q1:(2000:Int)<(s.size:Int):=by omega
  clear h2 HTK;go_wp2_with fail;go_ret3;exact HF.o
 have q1:¬(2000:Int)<(s.size:Int):=by omega
 go_wp2_with fail;refine HTK.o.mono ?_;rintro e w1 ⟨A,c,rfl,hown,hb1⟩;have HB1:=zh hb1;obtain⟨w2,hw2⟩:=zG (w1.alloc (.cells #[.slice A n c,.int .i64 s.size,.int .i64 0,.bool false,.int .i64 0] 80));have hb2:Below w1.heap.size w1 w2:=by rw[<-hw2];exact (Below.refl _ _).alloc (zr _) _
 have HB2:Hid (Below w.heap.size w w2):=zh (hb1.trans (hb2.mono hb1.size));have hz2:w2.heap.size=w1.heap.size+1:=by rw[<-hw2];simp
 have HPS:Hid (PsAt w2 w1.heap.size w1.heap.size (toks s) s.size 0 false 0):=zh (by
  have hown2:w2.ownsRow w.heap.size 122 2 (.slice A n c) n ((toks s).flatMap tkC):=Za9 hown hb2;refine⟨A,n,c,by rw[<-hw2];exact Blk.new _ _ _,RowIn.of_own hown2,HN.o,?_,fun g o e=>?_⟩
  ·rcases hown.2 with ⟨h,h0⟩|⟨g,cap,cur,h,_,_,hcap,_⟩
   ·rw[h0];exact Nat.zero_le _
   ·injection h with _ _ h;omega
  ·have:=(hown.lt g (by rw[e];rfl)).2;exact⟨by omega,this⟩)
 have c0:w2.cell? ⟨w1.heap.size,0,none⟩=some (.slice A n c):=by rw[<-hw2];exact (Blk.new _ _ _).cell 0
 have HZ2:=zh hz2;clear hown hb1 hb2 hz2 HTK;by_cases h0:n=0
 ·have h00:toks s = []:=List.length_eq_zero_iff.1 (HN.o.trans h0);have hn0:(n:Int)=0:=by omega
  obtain⟨w3,hw3⟩:=zG (w2.alloc (.cells #[.nilIface] 84))
  have HF:Hid (ParseR s w (.returned (.tuple #[.pointer (some ⟨w2.heap.size,0,none⟩),.int .i64 0,.int .i64 0])) w3):=zh (by
   have hb3:Below w2.heap.size w2 w3:=by rw[<-hw3];exact (Below.refl _ _).alloc (zr _) _
   exact⟨some none,0,_,.empty (by omega) h00,rfl,⟨_,rfl,HB2.o.size,by rw[<-hw3];exact Blk.new _ _ _⟩,HB2.o.trans (hb3.mono HB2.o.size)⟩)
  clear h00 h0;go_wp2_with fail;go_ret3;exact HF.o
 have hne:toks s≠[]:=fun h=>h0 (by rw[<-HN.o,h];rfl);have HNE:=zh hne;have hn0:¬(n:Int)=0:=by omega
 have HOR:=zh (or_any (toks s) w2.heap.size w1.heap.size w1.heap.size s.size 0 0 w2 (by have:=HZ2.o;omega) (by have:=HZ2.o;omega) (zr _) (by omega) (by have:=HL.o;have:=HN.o;omega) (fun t ht=>by have:=HM.o t ht;omega) HPS.o (fun V hV=>HGE.o V (HB2.o.trans (hV.mono HB1.o.size))));clear hne h0;go_wp2_with fail;clear hw2 c0;refine HOR.o.mono ?_;rintro e w4 ⟨v,ok,ts1,ns,at1,rfl,hpi⟩;have HPI:=zh hpi;have hvf:=Zdv hpi.okv;obtain⟨A4,n4,c4,hps⟩:=hpi.ps;have k0:w4.cell? ⟨w1.heap.size,0,none⟩=some (.slice A4 n4 c4):=hps.blk.cell 0;have k3:w4.cell? ⟨w1.heap.size,3,none⟩=some (.bool (!ok)):=hps.blk.cell 3;have k4:w4.cell? ⟨w1.heap.size,4,none⟩=some (.int .i64 at1):=hps.blk.cell 4;have HL4:=zh hps.len;have HB4:Hid (Below w.heap.size w w4):=zh ((HB2.o.trans (hpi.kept.toBelow (B:=w.heap.size) (fun i hi=>by have:=HB1.o.size;omega) HB2.o.size)));clear hpi hps HOR;cases ok
 ·have HF:Hid (∀q,ParseR s w (.returned (.tuple #[.pointer none,.int .i64 at1,.int .i64 11])) (w4.drewN q)):=zh (fun q=>by
   obtain⟨j,hj⟩:=HPI.o.drop;have hp:=HPI.o.par;have ha:=HPI.o.at1;rw[hj]at hp ha;simp at ha;exact⟨none,at1,_,by rw[ha];exact .bad (by omega) HNE.o hp (Or.inl rfl),rfl,rfl,below_drewN HB4.o q⟩)
  simp only[Bool.not_false]at k3;clear HPI;rcases hvf with rfl|⟨tv,xv,rfl⟩
  ·go_wp2_with fail;go_quiet (fail);go_wp2_with fail;go_ret3;exact HF.o _
  ·go_wp2_with fail;go_quiet (fail);go_wp2_with fail;go_ret3;exact HF.o _
 simp only[Bool.not_true]at k3;cases ts1 with
 | nil=>
  obtain rfl:n4=0:=HL4.o.symm;obtain⟨w5,hw5⟩:=zG (w4.alloc (.cells #[v] 84))
  have HF:Hid (ParseR s w (.returned (.tuple #[.pointer (some ⟨w4.heap.size,0,none⟩),.int .i64 0,.int .i64 0])) w5):=zh (by
   have hb5:Below w4.heap.size w4 w5:=by rw[<-hw5];exact (Below.refl _ _).alloc (zr _) _
   have hp:=HPI.o.par;have hnf:=hp.nf rfl;refine⟨_,0,_,.good (by omega) HNE.o hp,rfl,⟨Zcv hnf.1 hnf.2,w4.heap.size,v,rfl,HB4.o.size,by rw[<-hw5];exact Blk.new _ _ _,?_⟩,HB4.o.trans (hb5.mono HB4.o.size)⟩;exact ((HPI.o.nd rfl).under hb5).low HB2.o.size)
  clear HPI;rcases hvf with rfl|⟨tv,xv,rfl⟩
  ·go_wp2_with fail;go_ret3;exact HF.o
  ·go_wp2_with fail;go_ret3;exact HF.o
 | cons t r=>
  have hn4:(0:Int)<(n4:Int):=by have:=HL4.o;simp at this;omega
  have HFL:=zh (Zev w1.heap.size s.size 0 at1 (t::r) w4 HPI.o.ps)
  have HF:Hid (∀w',Kept (fun i=>i=w1.heap.size) w4 w'->∀q,ParseR s w (.returned (.tuple #[.pointer none,.int .i64 (place (t::r) s.size:Nat),.int .i64 11])) (w'.drewN q)):=zh (fun w' hk q=>by
   obtain⟨j,hj⟩:=HPI.o.drop;have hp:=HPI.o.par;rw[hj]at hp ⊢;exact⟨none,_,_,.bad (by omega) HNE.o hp (Or.inr (by rw[<-hj];simp)),rfl,rfl,below_drewN (HB4.o.trans (hk.toBelow (B:=w.heap.size) (fun i hi=>by have:=HB1.o.size;omega) HB4.o.size)) q⟩)
  clear HPI;rcases hvf with rfl|⟨tv,xv,rfl⟩
  ·go_wp2_with fail;refine HFL.o.mono ?_;rintro e w5 ⟨rfl,hp5,hk5⟩;have HX:=zh (HF.o w5 hk5);obtain⟨A5,n5,c5,hps⟩:=hp5;have m3:w5.cell? ⟨w1.heap.size,3,none⟩=some (.bool true):=hps.blk.cell 3;have m4:w5.cell? ⟨w1.heap.size,4,none⟩=some (.int .i64 (place (t::r) s.size:Nat)):=hps.blk.cell 4;clear hps hk5 HFL HF;go_wp2_with fail;go_quiet (fail);go_wp2_with fail;go_ret3;exact HX.o _
  ·go_wp2_with fail;refine HFL.o.mono ?_;rintro e w5 ⟨rfl,hp5,hk5⟩;have HX:=zh (HF.o w5 hk5);obtain⟨A5,n5,c5,hps⟩:=hp5;have m3:w5.cell? ⟨w1.heap.size,3,none⟩=some (.bool true):=hps.blk.cell 3;have m4:w5.cell? ⟨w1.heap.size,4,none⟩=some (.int .i64 (place (t::r) s.size:Nat)):=hps.blk.cell 4;clear hps hk5 HFL HF;go_wp2_with fail;go_quiet (fail);go_wp2_with fail;go_ret3;exact HX.o _
end Go.Proofs.YtnpfaajhgghpgaaGreatDoor.Ru
namespace Go.Proofs.YtnpfaajhgghpgaaGreatDoor.Ru
open Go.RowKit Go.Maps Go.Shelf
theorem bx:Builder.Extra Tryz.prog Tryz.lays156_ren where
 sizeBuilder:=by kernel_rfl
 liesBuilder:=by kernel_rfl
 t5:=Tryz.underlying5
 a5:=Tryz.isAgg5
 z5:=Tryz.sizeOf5
 v5:=Tryz.zeroValue5
 infoByte:=by kernel_rfl
 cellsByte:=by kernel_rfl
 sizeByte:=by kernel_rfl
 neB5:=by decide
theorem Zpr (bk o c:Nat)(xs:List ByteArray)(sep:ByteArray)(w:World)(hcells:∀(j:Nat) x,xs[j]? = some x->w.cell? ⟨bk,o+j,none⟩=some (.string x))(hbk:bk<w.heap.size)(hN:xs.length<=140737488355328)(hcap:xs.length<=c)(hlen:(Lib.join (xs.map (·.data.toList)) sep.data.toList).length<=140737488355328) :
  Calls Tryz.prog 85 #[.slice (some ⟨bk,o,none⟩) xs.length c,.string sep] w fun e w'=>e = .returned (.string ⟨(Lib.join (xs.map (·.data.toList)) sep.data.toList).toArray⟩)/\Below w.heap.size w w':=
 Any.strings_Join Tryz.lays156 bx bk o c xs sep w hcells hbk hN hcap hlen
def ownB (n:Nd)(wi:Nat):ByteArray:=⟨(ownN n wi).toArray⟩
theorem Zkl {n:Nd}(h:NF n):∀wi,1<=(ownN n wi).length:=by
 induction h with
 | @atom a h=>
  intro wi;rw[ownN];cases a with
  | follows=>simp[leafT,followsW]
  | done=>simp[leafT,doneW]
  | tag x=>simp only[leafT,Za6,List.length_append];simp[tagW];omega
  | maker x=>simp only[leafT,Za6,List.length_append];simp[makerW];omega
  | num k less n=>simp only[leafT,Za6,List.length_append];rcases Zd7 less with ⟨e,_⟩|⟨e,_⟩ <;> rw[e] <;> simp <;> omega
 | no h ih=>intro wi;rw[ownN];simp;omega
 | @row k l hk h hf hl ih=>
  intro wi;cases l with
  | nil=>simp at hl
  | cons n l=>
   have:=ih n (by simp) (k+1);rw[ownN];split <;> simp[ownL] <;> omega
end Go.Proofs.YtnpfaajhgghpgaaGreatDoor.Ru
namespace Go.Proofs.YtnpfaajhgghpgaaGreatDoor.Ru
open Go.RowKit Go.Maps Go.Shelf
theorem Zm9 (n:Nd)(k:Nat):(ownB n k).size=(ownN n k).length:=by unfold ownB;show ((ownN n k).toArray).size=_;rw[List.size_toArray]
def ruleT:Option Nd->ByteArray
 | none=>⟨#[]⟩
 | some n=>ownB n 0
end Go.Proofs.YtnpfaajhgghpgaaGreatDoor.Ru
namespace Go.Proofs.YtnpfaajhgghpgaaGreatDoor.Ru
def fl (acc:List UInt8):List ByteArray:=if acc = [] then [] else [⟨acc.toArray⟩]
def sg (b:UInt8):List ByteArray:=if b=32 then [] else [⟨#[b]⟩]
def tkA:List UInt8->List UInt8->List ByteArray
 | acc,[]=>fl acc
 | acc,b::l=>if isD b=true then fl acc++(sg b++tkA [] l) else tkA (acc++[b]) l
def tkS (s:ByteArray):List ByteArray:=tkA [] s.data.toList
theorem Zkm (s:ByteArray)(i j:Nat):(s.extract i j).data.toList=(s.data.toList.drop i).take (j - i):=by
 simp[List.extract_eq_take_drop]
theorem Zrl {s:ByteArray}{i fr:Nat}(h1:fr<=i)(h2:i<=s.size):tx (wordT s i fr)=fl ((s.data.toList.drop fr).take (i - fr)):=by
 have hl:s.data.toList.length=s.size:=by simp
 unfold wordT fl;by_cases h:fr<i
 ·rw[if_pos h,if_neg (by
   intro e;have:=congrArg List.length e;rw[List.length_take,List.length_drop,hl]at this;simp at this;omega)]
  show [s.extract fr i]=_;congr 1;refine Za5 ?_;rw[Zkm]
 ·rw[if_neg h,if_pos (by rw[show i - fr=0 by omega];rfl)]
  rfl
theorem Zi7 (s:ByteArray):∀(f i fr:Nat),f=s.size - i->fr<=i->i<=s.size->tx (tokF s f i fr)=tkA ((s.data.toList.drop fr).take (i - fr)) (s.data.toList.drop i)
 | 0,i,fr,hf,h1,h2=>by
  have hl:s.data.toList.length=s.size:=by simp
  have h0:s.data.toList.drop i = []:=List.drop_eq_nil_of_le (by omega);rw[tokF,Zrl h1 h2,h0,tkA]
 | f+1,i,fr,hf,h1,h2=>by
  have hl:s.data.toList.length=s.size:=by simp
  have hi:i<s.data.toList.length:=by omega
  have hd:s.data.toList.drop i=byteAt s i::s.data.toList.drop (i+1):=by
   rw[List.drop_eq_getElem_cons hi];unfold byteAt;rw[List.getD_eq_getElem?_getD,List.getElem?_eq_getElem hi]
   rfl
  rw[tokF,hd,tkA];by_cases hb:isD (byteAt s i)=true
  ·rw[if_pos hb,if_pos hb];have ih:=Zi7 s f (i+1) (i+1) (by omega) (zr _) (by omega);rw[Nat.sub_self,List.take_zero]at ih;rw[<-ih,<-Zrl h1 h2];have h3:tx (signT s i)=sg (byteAt s i):=by
    unfold signT sg;by_cases h32:byteAt s i=32
    ·rw[if_pos h32,if_pos h32];rfl
    ·rw[if_neg h32,if_neg h32];show [s.extract i (i+1)]=_;congr 1;refine Za5 ?_;rw[Zkm,hd,show i+1 - i=1 by omega]
     rfl
   rw[<-h3];simp[tx]
  ·rw[if_neg hb,if_neg hb,Zi7 s f (i+1) fr (by omega) (by omega) (by omega)];congr 1;rw[show i+1 - fr=(i - fr)+1 by omega,List.take_add_one];congr 1;rw[List.getElem?_drop,show fr+(i - fr)=i by omega,List.getElem?_eq_getElem hi];unfold byteAt;rw[List.getD_eq_getElem?_getD,List.getElem?_eq_getElem hi]
   rfl
theorem Zi8 (s:ByteArray):tx (toks s)=tkS s:=by
 unfold toks tokR tkS;rw[Zi7 s _ 0 0 rfl (zr _) (Nat.zero_le _)]
 rfl
theorem Zez {s:ByteArray}:toks s = []↔tkS s = []:=by
 rw[<-Zi8];unfold tx;rw[List.map_eq_nil_iff]
def szL (L:List ByteArray):Nat:=(L.map ByteArray.size).sum
theorem Zna (a b:List ByteArray):szL (a++b)=szL a+szL b:=by unfold szL;rw[List.map_append,List.sum_append]
theorem Zg3 (a:ByteArray)(b:List ByteArray):szL (a::b)=a.size+szL b:=by unfold szL;rw[List.map_cons,List.sum_cons]
theorem fl_sz (acc:List UInt8):szL (fl acc)=acc.length:=by
 unfold fl;split
 ·rename_i h;subst h;rfl
 ·rw[Zg3];show acc.toArray.size+0=_;simp
theorem Znb:∀(l acc:List UInt8),szL (tkA acc l)<=acc.length+l.length
 | [],acc=>by rw[tkA,fl_sz];simp
 | b::l,acc=>by
  rw[tkA];split
  ·rw[Zna,Zna,fl_sz];have:=Znb l [];have h2:szL (sg b)<=1:=by
    unfold sg;split
    ·exact Nat.zero_le _
    ·rw[Zg3];exact zr _
   simp at this ⊢;omega
  ·have:=Znb l (acc++[b]);simp at this ⊢;omega
theorem Zsl {a:Leaf}(h:LeafOk a):(leafT a).data.toList≠[]:=by
 intro e;exact Zcm (w:=leafT a) (by right;right;right;right;right;exact Za5 e) a ⟨h,rfl⟩
mutual
def tkN:Nd->Nat->List ByteArray
 | .atom a,_=>[leafT a]
 | .no n,_=>notW::tkN n 3
 | .row k l,wi=>if k+1<wi then openW::(tkL l k++[closeW]) else tkL l k
def tkL:List Nd->Nat->List ByteArray
 | [],_=>[]
 | n::l,k=>tkN n (k+1)++tkM l k
def tkM:List Nd->Nat->List ByteArray
 | [],_=>[]
 | n::l,k=>wordOf k::(tkN n (k+1)++tkM l k)
end
end Go.Proofs.YtnpfaajhgghpgaaGreatDoor.Ru
