/- A part of the joined base. -/
import Derived.Test.YtnpfaajhgghpgaaGreatDoorU08
set_option linter.unusedVariables false
set_option maxHeartbeats 16000000
set_option maxRecDepth 100000
namespace Go.Proofs.YtnpfaajhgghpgaaGreatDoor
open Go.Shelf Go.RowKit Go.Maps
def setLast (w:World)(cb:Nat)(x:Ev):World:=((((((((w.setCell ⟨cb,2,none⟩ (.string x.src)).setCell ⟨cb,3,none⟩ (.int .i64 x.num)).setCell ⟨cb,4,none⟩ (.int .i64 x.tick)).setCell ⟨cb,5,none⟩ (.int .i64 x.kind)).setCell ⟨cb,6,none⟩ (.string x.person)).setCell ⟨cb,7,none⟩ (.string x.item)).setCell ⟨cb,8,none⟩ (.int .i64 x.value)).setCell ⟨cb,9,none⟩ (.string x.text))
theorem Ziz {w:World}{cb N:Nat}{half:Int}{l:Ev}{b:Bs}(h:Blk w cb 140 (crCells half N l b))(x:Ev):Blk (setLast w cb x) cb 140 (crCells half N x b):=by
 have h9:=((((((((h.set_ 2 (.string x.src)).set_ 3 (.int .i64 x.num)).set_ 4 (.int .i64 x.tick)).set_ 5 (.int .i64 x.kind)).set_ 6 (.string x.person)).set_ 7 (.string x.item)).set_ 8 (.int .i64 x.value)).set_ 9 (.string x.text))
 simp only[crCells,xq1,xq2,xq3]at h9;exact h9
theorem Zhx (w:World)(cb:Nat)(x:Ev):Kept (fun q=>q=cb) w (setLast w cb x):=((((((((Kept.refl (fun q=>q=cb) w).setCell (p:=⟨cb,2,none⟩) (Or.inl rfl) (.string x.src)).setCell (p:=⟨cb,3,none⟩) (Or.inl rfl) (.int .i64 x.num)).setCell (p:=⟨cb,4,none⟩) (Or.inl rfl) (.int .i64 x.tick)).setCell (p:=⟨cb,5,none⟩) (Or.inl rfl) (.int .i64 x.kind)).setCell (p:=⟨cb,6,none⟩) (Or.inl rfl) (.string x.person)).setCell (p:=⟨cb,7,none⟩) (Or.inl rfl) (.string x.item)).setCell (p:=⟨cb,8,none⟩) (Or.inl rfl) (.int .i64 x.value)).setCell (p:=⟨cb,9,none⟩) (Or.inl rfl) (.string x.text)
def ddArr (x:Ev)(v:Value):Array Value:=#[.string x.src,.int .i64 x.num,.int .i64 x.tick,.int .i64 x.kind,.string x.person,.string x.item,.int .i64 x.value,.string x.text,v]
theorem Zmv {w w':World}{B size n:Nat}{A:Option Addr}{xs:List Value}{S:Nat->Prop}(h:RowIn w B size A n xs)(k:Kept S w w')(hB:B<=w.heap.size)(hA:0<n->∀ad,A=some ad->¬S ad.block):RowIn w' B size A n xs:=by
 rcases Nat.eq_zero_or_pos n with h0|h0
 ·exact⟨h.1,Or.inl h0⟩
 refine⟨h.1,h.2.elim Or.inl fun hx=>Or.inr ?_⟩;obtain⟨b,off,e,hb,hc⟩:=hx;exact⟨b,off,e,hb,fun j u hu=>(k.cell (p:=⟨b,off+j,none⟩) (by show b<_;omega) (hA h0 ⟨b,off,none⟩ e)).trans (hc j u hu)⟩
theorem Zdr {x:Ev}(h:mayB x=true):x.kind<=14:=by
 unfold mayB at h;simp only[Bool.and_eq_true]at h;have h2:=h.2.2.2;unfold kindB at h2;by_cases hk:x.kind<=14
 ·exact hk
 ·exfalso
  repeat (first|(rw[if_neg (by omega)]at h2)|cases h2)
theorem Ztp (w:World)(x:Ev)(A:Option Addr)(n c:Nat)(t:TypeId):RowIn (w.alloc (.cells (ddArr x (.slice A n c)) t)) (w.heap.size+1) 9 (some ⟨w.heap.size,0,none⟩) 1 (rdC ⟨x,A,n,c⟩):=by
 refine⟨rfl,Or.inr ⟨w.heap.size,0,rfl,by omega,fun j u hu=>?_⟩⟩;rw[(Blk.new w t _).cell];rw[<-hu,Nat.zero_add];simp[rdC,evC,ddArr]
theorem zeroDds (w:World):(zeroValue 181).run Tryz.prog w = .ok (.slice none 0 0) w:=by kernel_rfl
def DdW (wr:World)(bd base:Nat)(x:Ev)(acc:List ByteArray):Prop:=∃(A:Option Addr) (c:Nat),Blk wr bd 183 (ddArr x (.slice A acc.length c))/\wr.ownsRow base 9 1 (.slice A acc.length c) acc.length (acc.map .string)
theorem MapsIn.nb_row {w:World}{b:Bs}{rs:List Rw}(h:MapsIn w b rs){base e size n:Nat}{v:Value}{xs:List Value}(hr:w.ownsRow base e size v n xs){g:Nat}(hg:v.ownBlock=some g):¬NB b g:=fun hq=>by
 have hm:∃k ok n M,MapIs Tryz.prog k ok w g n M:=by
  rcases Zgo hq with rfl|rfl|rfl|rfl|rfl|rfl|rfl
  ·obtain⟨M,hM,_⟩:=h.done;exact⟨_,_,_,M,hM⟩
  ·obtain⟨M,hM,_⟩:=h.shown;exact⟨_,_,_,M,hM⟩
  ·obtain⟨M,hM,_⟩:=h.hid;exact⟨_,_,_,M,hM⟩
  ·obtain⟨M,hM,_⟩:=h.fol;exact⟨_,_,_,M,hM⟩
  ·obtain⟨M,hM,_⟩:=h.mtd;exact⟨_,_,_,M,hM⟩
  ·obtain⟨M,hM,_⟩:=h.lik;exact⟨_,_,_,M,hM⟩
  ·exact⟨_,_,_,_,h.fans⟩
 obtain⟨k,ok,n,M,hM⟩:=hm;exact Zbe hr hM hg
theorem CrIn.tags {w:World}{cb:Nat}{b:Bs}{half:Int}{last:Ev}{G:ByteArray->Option Value}{R:ByteArray->List Rd}{U:Nat->Prop}{rs:List Rw}(h:CrIn w cb b half last G R U rs){p:ByteArray}{r:Rd}(hr:r∈R p):∃ts,TgAt w r ts:=by
 obtain⟨j,hj⟩:=List.mem_iff_getElem?.1 hr;have hl:=(List.getElem?_eq_some_iff.1 hj).1;rw[(h.rel p).1]at hl;exact⟨_,((h.rel p).2 j r _ hj (List.getElem?_eq_getElem hl)).2⟩
theorem CrIn.parts {w w':World}{cb:Nat}{b:Bs}{half:Int}{last:Ev}{G:ByteArray->Option Value}{R:ByteArray->List Rd}{U S:Nat->Prop}{rs:List Rw}(h:CrIn w cb b half last G R U rs)(k:Kept S w w')(hS:∀q,S q->q=cb\/w.heap.size<=q) :
  GrpIn rdC 9 183 w' b.pb rs.length 0 G R/\(∀p,DdsIs w' (R p) (ownC rs p))/\MapsIn w' b rs:=by
 have hpb:b.pb≠cb:=h.ppl.map.ne_blk h.blk;refine⟨h.ppl.kept k (fun hs=>?_) (fun p g v hp hg hs=>?_),fun p=>(h.rel p).kept k (fun r hr g hg hs=>?_),?_⟩
 ·rcases hS _ hs with h1|h1
  ·exact hpb h1
  ·have:=h.ppl.map.lt;omega
 ·have hl:=h.ppl.live hp hg;rcases hS _ hs with h1|h1
  ·by_cases hr:R p = []
   ·rw[h.ppl.none_ p hr]at hp;cases hp
   ·obtain⟨g',cap,e1,e2,_⟩:=h.ppl.some_ p hr;rw[e1]at hp;cases hp;exact Za1 e2 h.blk (by decide) (by rw[hg,h1])
  ·omega
 ·obtain⟨ts,ht⟩:=h.tags hr;have hl:=(ht.2.lt g hg).2;rcases hS _ hs with h1|h1
  ·exact Za1 ht.2 h.blk (by decide) (by rw[<-h1];exact hg)
  ·omega
 ·have hm:=h.maps
  have hq:∀q,NB b q->¬S q:=fun q hq hs=>by
   rcases hS _ hs with h1|h1
   ·rw[h1]at hq;exact hm.nb_ne h.blk hq
   ·have:=hm.nb_lt hq;omega
  have hne:=h.nd;unfold Bs.l at hne;simp only[List.nodup_cons,List.mem_cons,List.not_mem_nil,or_false,not_or,List.nodup_nil,and_true,not_false_eq_true]at hne;obtain⟨⟨a1,a2,a3,a4,a5,a6,a7⟩,_⟩:=hne;exact⟨hm.done.kept k (hq _ ⟨by simp[Bs.l],Ne.symm a1⟩),hm.shown.kept k (hq _ ⟨by simp[Bs.l],Ne.symm a2⟩),hm.hid.kept k (hq _ ⟨by simp[Bs.l],Ne.symm a3⟩),hm.fol.kept k (hq _ ⟨by simp[Bs.l],Ne.symm a4⟩),hm.mtd.kept k (hq _ ⟨by simp[Bs.l],Ne.symm a5⟩),hm.lik.kept k (hq _ ⟨by simp[Bs.l],Ne.symm a6⟩),hm.fans.kept k (hq _ ⟨by simp[Bs.l],Ne.symm a7⟩)⟩
theorem MapsIn.off {w w':World}{b:Bs}{rs:List Rw}{S:Nat->Prop}(hm:MapsIn w b rs)(k:Kept S w w')(hnd:b.l.Nodup)(hq:∀q,NB b q->¬S q):MapsIn w' b rs:=by
 have hne:=hnd;unfold Bs.l at hne;simp only[List.nodup_cons,List.mem_cons,List.not_mem_nil,or_false,not_or,List.nodup_nil,and_true,not_false_eq_true]at hne;obtain⟨⟨a1,a2,a3,a4,a5,a6,a7⟩,_⟩:=hne;exact⟨hm.done.kept k (hq _ ⟨by simp[Bs.l],Ne.symm a1⟩),hm.shown.kept k (hq _ ⟨by simp[Bs.l],Ne.symm a2⟩),hm.hid.kept k (hq _ ⟨by simp[Bs.l],Ne.symm a3⟩),hm.fol.kept k (hq _ ⟨by simp[Bs.l],Ne.symm a4⟩),hm.mtd.kept k (hq _ ⟨by simp[Bs.l],Ne.symm a5⟩),hm.lik.kept k (hq _ ⟨by simp[Bs.l],Ne.symm a6⟩),hm.fans.kept k (hq _ ⟨by simp[Bs.l],Ne.symm a7⟩)⟩
def moreR (R:ByteArray->List Rd)(p:ByteArray)(r:Rd):ByteArray->List Rd:=fun q=>if q=p then R p++[r] else R q
theorem CrIn.more {w w3 wr w12 w13:World}{cb bd N:Nat}{b:Bs}{half:Int}{last x:Ev}{G:ByteArray->Option Value}{R:ByteArray->List Rd}{U:Nat->Prop}{rs:List Rw}{acc:List ByteArray}{rd:Rd}{A8 A9:Option Addr}{c8 c9:Nat}
  (h3:CrIn w3 cb b half last G R U rs) (hw3:Below w.heap.size w w3) (hcw:∀q,U q->q<w.heap.size) (hKR:Kept (fun q=>q=cb\/q=bd) w3 wr) (hbd:w3.heap.size<=bd) (hrd:rd.e=x) (htg:TgAt wr rd acc) (htb:∀g,rd.blk=some g->w3.heap.size<=g)
  (hRel:∀p,DdsIs wr (R p) (ownC rs p)) (hK12:Kept (fun q=>q=b.pb\/(Value.slice A8 N c8).ownBlock=some q) wr w12) (hmap:MapIs Tryz.prog 9 okSl wr b.pb rs.length (mapG G)) (hrow:wr.ownsRow 0 183 9 (.slice A8 N c8) N ((R x.person).flatMap rdC))
  (hold:∀g,(Value.slice A8 N c8).ownBlock=some g->G x.person=some (.slice A8 N c8)) (hv9:(Value.slice A9 (N+1) c9).ownBlock=(Value.slice A8 N c8).ownBlock\/∃g,(Value.slice A9 (N+1) c9).ownBlock=some g/\wr.heap.size<=g)
  (hG:GrpIn rdC 9 183 w12 b.pb (rs.length+1) 0 (updG G x.person (.slice A9 (N+1) c9)) (moreR R x.person rd)) (hM12:MapsIn w12 b rs) (hC12:Blk w12 cb 140 (crCells half (rs.length+1) x b))
  (hM13:MapsIn w13 b (rs++[⟨x,acc⟩])) (hK13:Kept (NB b) w12 w13) (hcr:crB x=true) (hsh:EvSh x) (hnm:∀t∈acc,nameB t=true) (hln:acc.length<=1000) :
  ∃U':Nat->Prop,CrAt w13 cb half U' (rs++[⟨x,acc⟩])/\(∀q,U q->U' q)/\(∀q,U' q->U q\/w.heap.size<=q)/\Kept U w w13:=by
 have z1:=hw3.size;have z2:=hKR.size;have z3:=hK12.size;have z4:=hK13.size
 have hten:∀q r,r∈R q->∃ts,TgAt wr r ts:=fun q r hr=>by
  obtain⟨j,hj⟩:=List.mem_iff_getElem?.1 hr;have hl:=(List.getElem?_eq_some_iff.1 hj).1;rw[(hRel q).1]at hl;exact⟨_,((hRel q).2 j r _ hj (List.getElem?_eq_getElem hl)).2⟩
 have hoff:∀r ts,TgAt wr r ts->∀g,r.blk=some g->¬(g=b.pb\/(Value.slice A8 N c8).ownBlock=some g):=fun r ts ht g hg hs=>by
  rcases hs with hs|hs
  ·rw[hs]at hg;exact Zbe ht.2 hmap hg
  ·exact Ztj ht.2 hrow (by decide) g hg hs
 have htg12:TgAt w12 rd acc:=htg.kept hK12 (hoff rd acc htg);have htg13:TgAt w13 rd acc:=htg12.kept hK13 (fun g hg=>hM12.nb_row htg12.2 hg)
 have hrel13:∀p,DdsIs w13 (R p) (ownC rs p):=fun p=>by
  have h12:DdsIs w12 (R p) (ownC rs p):=(hRel p).kept hK12 (fun r hr=>by obtain⟨ts,ht⟩:=hten p r hr;exact hoff r ts ht);refine h12.kept hK13 (fun r hr g hg=>?_);obtain⟨j,hj⟩:=List.mem_iff_getElem?.1 hr;have hl:=(List.getElem?_eq_some_iff.1 hj).1;rw[h12.1]at hl;exact hM12.nb_row ((h12.2 j r _ hj (List.getElem?_eq_getElem hl)).2.2) hg
 refine⟨fun q=>U q\/(w.heap.size<=q/\q<w13.heap.size),⟨b,x,updG G x.person (.slice A9 (N+1) c9),moreR R x.person rd,?_⟩,fun q hq=>Or.inl hq,fun q hq=>hq.imp id (fun h=>h.1),?_⟩
 ·refine⟨?_,fun l hl=>?_,?_,fun p=>?_,hM13,h3.nd,Or.inl h3.uc,fun q hq=>Or.inl (h3.um q hq),fun p v g hp hg=>?_,fun p r g hr hg=>?_,fun q hq=>?_,fun r hr=>?_,fun r hr=>?_,fun r hr=>?_,fun r hr=>?_⟩
  ·rw[List.length_append];exact hC12.kept hK13 (hM12.nb_ne hC12)
  ·unfold lastE at hl;rw[List.getLast?_append]at hl;simp at hl;exact hl
  ·rw[List.length_append];refine hG.kept hK13 (fun hs=>hs.2 rfl) (fun p g v hp hg hs=>?_);by_cases hr:moreR R x.person rd p = []
   ·rw[hG.none_ p hr]at hp;cases hp
   ·obtain⟨g',cap,e1,e2,_⟩:=hG.some_ p hr;rw[e1]at hp;cases hp;exact hM12.nb_row e2 hg hs
  ·rw[Zmj];unfold moreR;by_cases e:p=x.person
   ·subst e;rw[if_pos rfl,if_pos rfl];refine⟨by rw[List.length_append,List.length_append,(hrel13 x.person).1];rfl,fun j r y hr hy=>?_⟩;by_cases hj:j<(R x.person).length
    ·rw[List.getElem?_append_left hj]at hr;rw[List.getElem?_append_left (by rw[<-(hrel13 x.person).1];exact hj)]at hy;exact (hrel13 x.person).2 j r y hr hy
    ·have hj2:j=(R x.person).length:=by
      have:=(List.getElem?_eq_some_iff.1 hr).1;rw[List.length_append]at this;simp at this;omega
     have hj3:j=(ownC rs x.person).length:=by rw[hj2,(hrel13 x.person).1]
     rw[hj2,List.getElem?_append_right (zr _),Nat.sub_self]at hr;rw[hj3,List.getElem?_append_right (zr _),Nat.sub_self]at hy;simp at hr hy;subst hr;subst hy;exact⟨hrd,htg13⟩
   ·rw[if_neg e,if_neg (fun e2=>e e2.symm)];exact hrel13 p
  ·unfold updG at hp;by_cases e:p=x.person
   ·rw[if_pos e]at hp;cases hp;rcases hv9 with hv|⟨g2,hv,hg2⟩
    ·rw[hg]at hv;exact Or.inl (h3.ur _ _ g (hold g hv.symm) hv.symm)
    ·rw[hg]at hv;cases hv;have hlive:=hG.live (p:=x.person) (by unfold updG;rw[if_pos rfl]) hg;exact Or.inr ⟨by omega,by omega⟩
   ·rw[if_neg e]at hp;exact Or.inl (h3.ur p v g hp hg)
  ·unfold moreR at hr;by_cases e:p=x.person
   ·rw[if_pos e]at hr;rcases List.mem_append.1 hr with hr|hr
    ·exact Or.inl (h3.ut _ r g hr hg)
    ·obtain rfl:r=rd:=by simpa using hr
     have:=htb g hg;have:=(htg13.2.lt g hg).2;exact Or.inr ⟨by omega,by omega⟩
   ·rw[if_neg e]at hr;exact Or.inl (h3.ut p r g hr hg)
  ·rcases hq with hq|hq
   ·have:=h3.lt q hq;omega
   ·exact hq.2
  ·rcases List.mem_append.1 hr with hr|hr
   ·exact h3.may r hr
   ·obtain rfl:r=⟨x,acc⟩:=by simpa using hr
    exact hcr
  ·rcases List.mem_append.1 hr with hr|hr
   ·exact h3.sh r hr
   ·obtain rfl:r=⟨x,acc⟩:=by simpa using hr
    exact hsh
  ·rcases List.mem_append.1 hr with hr|hr
   ·exact h3.tg r hr
   ·obtain rfl:r=⟨x,acc⟩:=by simpa using hr
    exact hnm
  ·rcases List.mem_append.1 hr with hr|hr
   ·exact h3.tn r hr
   ·obtain rfl:r=⟨x,acc⟩:=by simpa using hr
    exact hln
 ·refine (((below_kept hw3 (zr _):Kept U w w3).trans' hKR (fun i hi hs=>?_)).trans' hK12 (fun i hi hs=>?_)).trans' hK13 (fun i hi hs=>h3.um i hs.1)
  ·rcases hs with rfl|rfl
   ·exact h3.uc
   ·omega
  ·rcases hs with rfl|hs
   ·exact h3.um _ (by simp[Bs.l])
   ·exact h3.ur _ _ i (hold i hs) hs
def ApS (W:World)(cb pb eb bd:Nat)(x:Ev)(v:Value):Prop:=World.cell? W ⟨cb,10,none⟩=some (.map (some pb))/\World.cell? W ⟨eb,4,none⟩=some (.string x.person)/\World.cell? W ⟨bd,0,none⟩=some (.string x.src)/\World.cell? W ⟨bd,1,none⟩=some (.int .i64 x.num)/\World.cell? W ⟨bd,2,none⟩=some (.int .i64 x.tick)/\World.cell? W ⟨bd,3,none⟩=some (.int .i64 x.kind)/\World.cell? W ⟨bd,4,none⟩=some (.string x.person)/\World.cell? W ⟨bd,5,none⟩=some (.string x.item)/\World.cell? W ⟨bd,6,none⟩=some (.int .i64 x.value)/\World.cell? W ⟨bd,7,none⟩=some (.string x.text)/\World.cell? W ⟨bd,8,none⟩=some v
theorem Zmw {W:World}{cb eb bd N:Nat}{b:Bs}{half:Int}{l x:Ev}{v:Value}(h1:Blk W cb 140 (crCells half N l b))(h2:Blk W eb 59 (evArr x))(h3:Blk W bd 183 (ddArr x v)):ApS W cb b.pb eb bd x v:=⟨h1.cell 10,h2.cell 4,h3.cell 0,h3.cell 1,h3.cell 2,h3.cell 3,h3.cell 4,h3.cell 5,h3.cell 6,h3.cell 7,h3.cell 8⟩
theorem apply_any (w:World)(cb:Nat)(half:Int)(U:Nat->Prop)(rs:List Rw)(x:Ev)(A:Option Addr)(ts:List ByteArray)(n c:Nat)(h:CrAt w cb half U rs)(hx:EvSh x)(hn:ts.length=n)(hts:RowIn w w.heap.size 1 A n (ts.map .string))(hsz:∀t∈ts,t.size<=maxLen)(hg:GlobAt w)(hb:rs.length<=100000)(hnb:n<=1000)(hta:0<n->∀ad,A=some ad->¬U ad.block) :
  Calls Tryz.prog 89 #[.pointer (some ⟨cb,0,none⟩),evA x,.slice A n c] w fun e w'=>e = .returned (.bool (takesC rs x))/\∃U':Nat->Prop,CrAt w' cb half U' (aftC rs ⟨x,ts⟩)/\(∀q,U q->U' q)/\(∀q,U' q->U q\/w.heap.size<=q)/\Kept U w w':=by
 obtain⟨b,last,G,R,h⟩:=h;have HI:=zh h;have HN:=zh hn;have HTS:=zh hts;have HSZ:=zh hsz;have HTA:=zh hta;have HSX:=zh hx;have hcl:cb<w.heap.size:=h.lt _ h.uc
 have HNO:Hid (takesC rs x=false->∀w',Below w.heap.size w w'->∃U':Nat->Prop,CrAt w' cb half U' (aftC rs ⟨x,ts⟩)/\(∀q,U q->U' q)/\(∀q,U' q->U q\/w.heap.size<=q)/\Kept U w w'):=zh (fun ht w' hb=>by
  unfold aftC;rw[show takesC rs (⟨x,ts⟩:Rw).e=false from ht];exact⟨U,⟨b,last,G,R,h.kept (below_kept (S:=fun _=>False) hb (zr _)) (fun _ _ h=>h)⟩,fun _ h=>h,fun _ h=>Or.inl h,below_kept hb (zr _)⟩)
 have HTK:Hid (takesC rs x=(crB x && !(match lastE rs with|none=>false|some l=>decide (cmpE x l≠1)))):=zh (by unfold takesC;cases lastE rs <;> simp);have HCT:Hid (crB x=(mayB x&&decide (x.kind<11))):=zh rfl;obtain⟨w1,hw1⟩:=zG (w.alloc (.cells (evArr x) 59));have be1:Hid (Blk w1 w.heap.size 59 (evArr x)):=zB hw1;have HB1:=zA hw1;have HM:=zh (may_any x w1 hx (hg.keep HB1.o (zr _)));obtain⟨d0,d1,d2,d3,d4,d5,d6,d7⟩:=zC8 be1.o;clear h hg hn hts hsz hta hx;unfold evA at HM ⊢;unfold evArr at hw1;go_enter Tryz.func89,Tryz.ntmps89;go_wp2_with fail;refine HM.o.mono ?_;rintro e w2 ⟨rfl,hb2⟩;have HB2:=zT HB1 hb2;have HE2:Hid (Blk w2 w.heap.size 59 (evArr x)):=zX be1 hb2;have HI2:Hid (CrIn w2 cb b half last G R U rs):=zh (HI.o.kept (below_kept (S:=fun _=>False) HB2.o (zr _)) (fun _ _ h=>h));clear hb2 HM hw1 HB1 be1 d0 d1 d2 d3 d4 d5 d6 d7;cases hm:mayB x
 ·have HT:Hid (takesC rs x=false):=zh (by rw[HTK.o,HCT.o,hm];rfl);clear hm;go_wp2_with fail;go_ret;exact⟨Zab HT.o.symm,HNO.o HT.o _ HB2.o⟩
 have c1:w2.cell? ⟨cb,1,none⟩=some (.int .i64 rs.length):=HI2.o.blk.cell 1;have e3:w2.cell? ⟨w.heap.size,3,none⟩=some (.int .i64 x.kind):=HE2.o.cell 3;have da:decide ((1048576:Int)<=(rs.length:Int))=false:=decide_eq_false (by omega);have HMY:=zh hm;have hk14:=Zdr hm;clear hm;by_cases k11:x.kind=11
 ·have HT:Hid (takesC rs x=false):=zh (by rw[HTK.o,HCT.o,decide_eq_false (show ¬x.kind<11 by omega)];simp);have z11:(x.kind == 11)=true:=by rw[k11];rfl
  clear k11;go_wp2_with fail;go_ret;exact⟨Zab HT.o.symm,HNO.o HT.o _ HB2.o⟩
 have z11:(x.kind == 11)=false:=by rw[Bool.eq_false_iff];intro e;exact k11 (beq_iff_eq.1 e)
 by_cases k12:x.kind=12
 ·have HT:Hid (takesC rs x=false):=zh (by rw[HTK.o,HCT.o,decide_eq_false (show ¬x.kind<11 by omega)];simp);have z12:(x.kind == 12)=true:=by rw[k12];rfl
  clear k11 k12;go_wp2_with fail;go_ret;exact⟨Zab HT.o.symm,HNO.o HT.o _ HB2.o⟩
 have z12:(x.kind == 12)=false:=by rw[Bool.eq_false_iff];intro e;exact k12 (beq_iff_eq.1 e)
 by_cases k13:x.kind=13
 ·have HT:Hid (takesC rs x=false):=zh (by rw[HTK.o,HCT.o,decide_eq_false (show ¬x.kind<11 by omega)];simp);have z13:(x.kind == 13)=true:=by rw[k13];rfl
  clear k11 k12 k13;go_wp2_with fail;go_ret;exact⟨Zab HT.o.symm,HNO.o HT.o _ HB2.o⟩
 have z13:(x.kind == 13)=false:=by rw[Bool.eq_false_iff];intro e;exact k13 (beq_iff_eq.1 e)
 by_cases k14:x.kind=14
 ·have HT:Hid (takesC rs x=false):=zh (by rw[HTK.o,HCT.o,decide_eq_false (show ¬x.kind<11 by omega)];simp);have z14:(x.kind == 14)=true:=by rw[k14];rfl
  clear k11 k12 k13 k14;go_wp2_with fail;go_ret;exact⟨Zab HT.o.symm,HNO.o HT.o _ HB2.o⟩
 have z14:(x.kind == 14)=false:=by rw[Bool.eq_false_iff];intro e;exact k14 (beq_iff_eq.1 e)
 have HCB:Hid (crB x=true):=zh (by rw[HCT.o,HMY.o,decide_eq_true (show x.kind<11 by omega)];rfl);have HTK2:Hid (takesC rs x = !(match lastE rs with|none=>false|some l=>decide (cmpE x l≠1))):=zh (by rw[HTK.o,HCB.o,Bool.true_and]);clear k11 k12 k13 k14 hk14 HTK HCT HMY;go_upto_region 9 with fail;clear da c1 e3;generalize hbad:(match lastE rs with|none=>false|some l=>decide (cmpE x l≠1))=bad at HTK2;have HBAD:=zh hbad;clear hbad;go_cut [40] (fun c wx=>c = .bool bad/\Hid (Below w2.heap.size w2 wx))
 case first=>
  obtain⟨e0,e1,e2,e3,e4,e5,e6,e7⟩:=zC8 HE2.o;have c0:w2.cell? ⟨cb,2,none⟩=some (.string last.src):=HI2.o.blk.cell 2;have c1:w2.cell? ⟨cb,3,none⟩=some (.int .i64 last.num):=HI2.o.blk.cell 3;have c2:w2.cell? ⟨cb,4,none⟩=some (.int .i64 last.tick):=HI2.o.blk.cell 4;have c3:w2.cell? ⟨cb,5,none⟩=some (.int .i64 last.kind):=HI2.o.blk.cell 5;have c4:w2.cell? ⟨cb,6,none⟩=some (.string last.person):=HI2.o.blk.cell 6;have c5:w2.cell? ⟨cb,7,none⟩=some (.string last.item):=HI2.o.blk.cell 7;have c6:w2.cell? ⟨cb,8,none⟩=some (.int .i64 last.value):=HI2.o.blk.cell 8;have c7:w2.cell? ⟨cb,9,none⟩=some (.string last.text):=HI2.o.blk.cell 9;have ca:w2.cell? ⟨cb,1,none⟩=some (.int .i64 rs.length):=HI2.o.blk.cell 1;have HCE:=zh (Zge x last w2.drew);have HTR:Hid (decide (cmpE x last<=0)=decide (cmpE x last≠1)):=zh (by rcases Zo6 x last with h|h|h <;> rw[h] <;> rfl);unfold evA at HCE;by_cases hem:rs.length=0
  ·have HL:Hid (bad=false):=zh (by
    rw[<-HBAD.o,List.eq_nil_of_length_eq_zero hem]
    rfl)
   rw[hem]at ca;rw[show ((0:Nat):Int)=0 from rfl]at ca;clear hem;go_quiet (fail);go_wp2_with fail;go_meet;exact⟨by rw[HL.o],zh (below_drewN (Below.refl _ _) _)⟩
  ·have HL:Hid (bad=decide (cmpE x last<=0)):=zh (by
    rw[<-HBAD.o,HTR.o];cases hl:lastE rs with
    | none=>
     unfold lastE at hl;rw[Option.map_eq_none_iff,List.getLast?_eq_none_iff]at hl;rw[hl]at hem;exact absurd rfl hem
    | some l=>rw[HI2.o.lst l hl])
   obtain⟨L,hL⟩:=zG (rs.length);rw[hL]at ca hem;have da:decide ((0:Int)<(L:Int))=true:=decide_eq_true (by omega);have da2:decide (0<L)=true:=decide_eq_true (by omega);clear hem hL;refine Ze4 [11] (by kernel_rfl) (by kernel_rfl) ?_;simp only[wpText,Nat.sub_zero,List.take_succ_cons,List.take_zero,List.drop_succ_cons,List.drop_zero,Nat.reduceAdd]
   repeat ((with_reducible refine wpStill_step (fun K hK=>?_));go_simp;refine hK _ ?_;clear hK K)
   with_reducible refine wpStill_nil ?_
   go_wp2_with fail;refine HCE.o.mono ?_;rintro e w3 ⟨rfl,hb3⟩;have HB3:Hid (Below w2.heap.size w2 w3):=zh (Zd3 1 hb3);clear hb3 HCE;go_wp2_with fail
   repeat ((with_reducible refine wpStill_step (fun K hK=>?_));go_simp;refine hK _ ?_;clear hK K)
   (try with_reducible refine wpStill_nil ?_)
   go_wp2_with fail;go_meet;exact⟨by rw[HL.o],HB3⟩
 case rest=>
 obtain⟨rfl,HBC⟩:=hcut;obtain⟨w3,rfl⟩:=zH wc;have HB3:=zT HB2 HBC.o;have HE3:Hid (Blk w3 w.heap.size 59 (evArr x)):=zh ((HBC.o.block _ HE2.o.lt).trans HE2.o);have HI3:Hid (CrIn w3 cb b half last G R U rs):=zh (HI.o.kept (below_kept (S:=fun _=>False) HB3.o (zr _)) (fun _ _ h=>h));clear HB2 HE2 HI2 HBC;cases bad
 rotate_left
 ·have HT:Hid (takesC rs x=false):=zh (by rw[HTK2.o];rfl);go_wp2_with fail;go_ret;exact⟨Zab HT.o.symm,HNO.o HT.o _ HB3.o⟩
 have HT:Hid (takesC rs x=true):=zh (by rw[HTK2.o];rfl);clear HTK2 HNO HBAD;have c1:w3.cell? ⟨cb,1,none⟩=some (.int .i64 rs.length):=HI3.o.blk.cell 1;have f1:w3.frozen? ⟨cb,1,none⟩=false:=HI3.o.blk.frozen 1;go_upto_region 12 with fail;obtain⟨w4,hw4⟩:=zG (w3.setCell ⟨cb,1,none⟩ (.int .i64 ((rs.length:Int)+1)));rw[hw4];have HC4:Hid (Blk w4 cb 140 (crCells half (rs.length+1) last b)):=zh (by rw[<-hw4];exact HI3.o.blk.set_ 1 _);have HK4:Hid (Kept (fun q=>q=cb) w3 w4):=zh (by rw[<-hw4];exact (Kept.refl (fun q=>q=cb) w3).setCell (p:=⟨cb,1,none⟩) (Or.inl rfl) _);have hne:w.heap.size≠cb:=by omega
 have HE4:Hid (Blk w4 w.heap.size 59 (evArr x)):=zh (HE3.o.kept HK4.o hne);clear hw4 c1 f1;obtain⟨e0,e1,e2,e3,e4,e5,e6,e7⟩:=zC8 HE4.o;have c0:w4.cell? ⟨cb,2,none⟩=some (.string last.src):=HC4.o.cell 2;have c1:w4.cell? ⟨cb,3,none⟩=some (.int .i64 last.num):=HC4.o.cell 3;have c2:w4.cell? ⟨cb,4,none⟩=some (.int .i64 last.tick):=HC4.o.cell 4;have c3:w4.cell? ⟨cb,5,none⟩=some (.int .i64 last.kind):=HC4.o.cell 5;have c4:w4.cell? ⟨cb,6,none⟩=some (.string last.person):=HC4.o.cell 6;have c5:w4.cell? ⟨cb,7,none⟩=some (.string last.item):=HC4.o.cell 7;have c6:w4.cell? ⟨cb,8,none⟩=some (.int .i64 last.value):=HC4.o.cell 8;have c7:w4.cell? ⟨cb,9,none⟩=some (.string last.text):=HC4.o.cell 9;have f0:=HC4.o.frozen 2;have f1:=HC4.o.frozen 3;have f2:=HC4.o.frozen 4;have f3:=HC4.o.frozen 5;have f4:=HC4.o.frozen 6;have f5:=HC4.o.frozen 7;have f6:=HC4.o.frozen 8;have f7:=HC4.o.frozen 9;have hne2:cb≠w.heap.size:=by omega
 go_upto_region 13 with fail;obtain⟨w5,hw5⟩:=zG (setLast w4 cb x);have hw5':=hw5;unfold setLast at hw5';rw[hw5'];have HC5:Hid (Blk w5 cb 140 (crCells half (rs.length+1) x b)):=zh (by rw[<-hw5];exact Ziz HC4.o x);have HK5:Hid (Kept (fun q=>q=cb) w3 w5):=zh (HK4.o.trans (by rw[<-hw5];exact Zhx w4 cb x));have HE5:Hid (Blk w5 w.heap.size 59 (evArr x)):=zh (HE3.o.kept HK5.o hne);clear hw5 hw5' e0 c0 f0 e1 c1 f1 e2 c2 f2 e3 c3 f3 e4 c4 f4 e5 c5 f5 e6 c6 f6 e7 c7 f7 hne hne2 HC4 HK4 HE4;obtain⟨e0,e1,e2,e3,e4,e5,e6,e7⟩:=zC8 HE5.o;obtain⟨bd,hbd⟩:=zG (w5.heap.size);obtain⟨w6,hw6⟩:=zG (w5.alloc (.cells (ddArr x (.slice none 0 0)) 183));have HD6:Hid (DdW w6 bd w6.heap.size x (tagsP (ts.take 0))):=zh ⟨none,0,by rw[<-hw6,<-hbd];exact Blk.new _ _ _,own_nil _ _ _ _⟩;have HK6:Hid (Kept (fun q=>q=cb) w3 w6):=zh (by rw[<-hw6];exact HK5.o.alloc _);have HC6:Hid (Blk w6 cb 140 (crCells half (rs.length+1) x b)):=zh (by rw[<-hw6];exact HC5.o.alloc _);have HE6:Hid (Blk w6 w.heap.size 59 (evArr x)):=zh (by rw[<-hw6];exact HE5.o.alloc _);have HBD:Hid (w3.heap.size<=bd/\bd<w6.heap.size):=zh ⟨by rw[<-hbd];exact HK5.o.size,by rw[<-hw6,<-hbd];simp⟩;have HT6:Hid (RowIn w6 w.heap.size 1 A n (ts.map .string)):=zh (Zmv (HTS.o.below HB3.o) HK6.o HB3.o.size (fun h0 ad ha e=>HTA.o h0 ad ha (by rw[e];exact HI3.o.uc)));have HBD5:=zh hbd;have HW6:=zh hw6;clear hw6;clear hbd;go_wp2_with fail;have hw6':=HW6.o;unfold ddArr at hw6';rw[HBD5.o,hw6'];clear hw6' e0 e1 e2 e3 e4 e5 e6 e7;obtain⟨i0,hi0,hz0,hz1,hz2⟩:=info_parts Zjy;go_loopw [56] (fun i wr=>∃k:Nat,k<=n/\i = .int .i64 k/\Hid (DdW wr bd w6.heap.size x (tagsP (ts.take k)))/\Hid (Kept (fun q=>q=bd) w6 wr)) (fun i _=>n - (intOf i).toNat)
 case atStart=>exact⟨0,Nat.zero_le _,rfl,HD6,zh (Kept.refl _ _)⟩
 case round=>
  clear HD6 HC5 HK5 HE5 HBD5 HW6;obtain⟨k,hk,rfl,hdd,hkw⟩:=hrel;obtain⟨A5,c5,hblk,hrow⟩:=hdd.o;have HBL:=zh hblk;have HRW:=zh hrow;by_cases hlt:k<n
  ·obtain⟨t,ht⟩:∃t,ts[k]? = some t:=⟨ts[k]'(by rw[HN.o];exact hlt),List.getElem?_eq_getElem _⟩
   have HRO:Hid (RowIn wr w.heap.size 1 A n (ts.map .string)):=zh (Zmv HT6.o hkw.o (Nat.le_trans HB3.o.size HK6.o.size) (fun _ ad ha e=>by
    obtain⟨g,o,e2,hg,_⟩:=HT6.o.at (by omega);rw[ha]at e2;have e3:ad.block=g:=by injection e2 with e2;rw[e2]
    have:=HBD.o.1;have:=HB3.o.size;omega))
   obtain⟨g,o,rfl,hgw,hcl2⟩:=HRO.o.at (by omega);have t0:wr.cell? ⟨g,o+k,none⟩=some (.string t):=hcl2 k _ (by simp[ht]);have HNM:=zh (name_any t wr (HSZ.o t (List.mem_of_getElem? ht)));have HTG:Hid (tagsP (ts.take (k+1))=tagStep (tagsP (ts.take k)) t):=zh (by rw[Zbd ht,Zd5]);have HTL:Hid ((tagsP (ts.take k)).length<=k):=zh (Nat.le_trans (Zhn _) (by rw[List.length_take];omega));have hk8:(k:Int)<(n:Int):=by omega
   have hk9:(0:Int)<=(k:Int):=by omega
   have hkz:=hkw.o.size;obtain⟨acc,hacc⟩:=zG (tagsP (ts.take k));rw[hacc]at HTG HTL HBL HRW;obtain⟨m,hm⟩:=zG (acc.length);rw[hm]at HTL HBL HRW;have HMM:=zh hm;have htl:=HTL.o;have HCN:=zh (contains_any wr wr.heap.size A5 acc m c5 t hm (RowIn.of_own HRW.o) (by omega));have b8:wr.cell? ⟨bd,8,none⟩=some (.slice A5 m c5):=HBL.o.cell 8;have f8:=HBL.o.frozen 8;have hbdl:=HBL.o.lt;clear hcl2 ht hdd hblk hrow hacc hm;go_wp2_with fail;refine HNM.o.mono ?_;rintro e w7 ⟨rfl,rfl⟩;cases hnm:nameB t
   ·have HTS1:Hid (tagsP (ts.take (k+1))=acc):=zh (by rw[HTG.o];unfold tagStep;rw[hnm];rfl);clear hnm;go_wp2_with fail;go_roundw
    case rel=>exact⟨k+1,by omega,by go_num,zh (by rw[HTS1.o];exact⟨A5,c5,by rw[HMM.o];exact HBL.o,by rw[HMM.o];exact HRW.o⟩),hkw⟩
    case measure=>simp[intOf];omega
   have HNMT:=zh hnm;clear hnm;go_wp2_with fail;refine HCN.o.mono ?_;rintro e w7 ⟨rfl,rfl⟩;cases hmb:memB t acc
   rotate_left
   ·have HTS1:Hid (tagsP (ts.take (k+1))=acc):=zh (by rw[HTG.o];unfold tagStep;rw[HNMT.o,hmb];rfl);clear hmb;go_wp2_with fail;go_roundw
    case rel=>exact⟨k+1,by omega,by go_num,zh (by rw[HTS1.o];exact⟨A5,c5,by rw[HMM.o];exact HBL.o,by rw[HMM.o];exact HRW.o⟩),hkw⟩
    case measure=>simp[intOf];omega
   have HTS1:Hid (tagsP (ts.take (k+1))=acc++[t]):=zh (by rw[HTG.o];unfold tagStep;rw[HNMT.o,hmb];rfl);clear hmb
   go_wp2_with (first
    | (at_builtin;refine Zaa _ rfl _ _ 36 rfl w6.heap.size 9 i0 _ 1 16 Tryz.underlying36 hi0 hz0 hz1 hz2 rfl (by omega) (.slice A5 m c5) m _ rfl (HRW.o.alloc _) (wr.heap.size+1) (some ⟨wr.heap.size,0,none⟩) 1 1 [.string t] rfl (Zit wr t _) (fun h=>by cases h) (fun u hu=>by rw[List.mem_singleton]at hu;subst hu;rfl) (by unfold maxLen;omega) (by omega) (by simp;omega) ?_;intro v7 w7 ho7 hg7 hv7;obtain⟨A7,c7,hv⟩:=own_shape ho7;subst hv;have HB7:Hid (Blk w7 bd 183 (ddArr x (.slice A5 m c5))):=zh ((HBL.o.alloc _).grown hg7 (fun e=>Za1 HRW.o HBL.o (by decide) e.symm));have HO7:=zh ho7;have HK7:Hid (Kept (fun q=>q=bd) w6 w7):=zh ((hkw.o.alloc _).grown hg7 (fun j hj=>Or.inr (HRW.o.lt j hj).1));have g8:w7.cell? ⟨bd,8,none⟩=some (.slice A5 m c5):=HB7.o.cell 8;have h8:w7.frozen? ⟨bd,8,none⟩=false:=HB7.o.frozen 8;clear ho7 hg7 hv7))
   go_roundw
   case rel=>
    refine⟨k+1,by omega,by go_num,zh ?_,zh (HK7.o.setCell (p:=⟨bd,8,none⟩) (Or.inl rfl) _)⟩;rw[HTS1.o];refine⟨A7,c7,?_,?_⟩
    ·rw[List.length_append,HMM.o];exact HB7.o.set_ 8 _
    ·rw[List.length_append,HMM.o,List.map_append];exact ownsRow_setCell_other HO7.o (fun e=>Za1 HO7.o HB7.o (by decide) e) _
   case measure=>simp[intOf];omega
  obtain rfl:n=k:=by omega
  have htl:ts.take n=ts:=by rw[<-HN.o,List.take_length]
  rw[htl]at HBL HRW;obtain⟨acc,hacc⟩:=zG (tagsP ts);rw[hacc]at HBL HRW;obtain⟨m,hm⟩:=zG (acc.length);rw[hm]at HBL HRW;have HMM:=zh hm;have HAC:=zh hacc;have HKR:Hid (Kept (fun q=>q=cb\/q=bd) w3 wr):=zh ((HK6.o.mono (fun _ _ h=>Or.inl h)).trans' hkw.o (fun _ _ h=>Or.inr h));clear hdd hblk hrow htl hm hacc hlt;have HCr:Hid (Blk wr cb 140 (crCells half (rs.length+1) x b)):=zh (HC6.o.kept hkw.o (fun e=>by have:=HBD.o.1;have:=HI3.o.lt _ HI3.o.uc;omega));have HEr:Hid (Blk wr w.heap.size 59 (evArr x)):=zh (HE6.o.kept hkw.o (fun e=>by have:=HBD.o.1;have:=HE3.o.lt;omega));have HPT:=zh (HI3.o.parts HKR.o (fun q hq=>hq.imp id (fun h=>by rw[h];exact HBD.o.1)));obtain⟨A8,c8,hgr,how,hold⟩:=HPT.o.1.row x.person;have hol:(R x.person).length<=rs.length:=by rw[(HI3.o.rel x.person).1];exact Zjz rs x.person
  obtain⟨M,hM⟩:=zG ((R x.person).length);rw[hM]at hgr how hold hol;have HNN:=zh hM;have HOW:=zh how;have HOLD:=zh hold;have HGR:=zh hgr;have hps:x.person.size<=maxLen:=by have:=HSX.o.2.1;unfold maxLen;omega
  have HLK:Hid (∀W,ApS W cb b.pb w.heap.size bd x (.slice A5 m c5)/\MapIs Tryz.prog 9 okSl W b.pb rs.length (mapG G)->ApS W cb b.pb w.heap.size bd x (.slice A5 m c5)/\(Instr.lookup 136 (.map (some b.pb)) (.string x.person) false).run Tryz.prog W = .ok (.slice A8 M c8) W):=zh (fun W h=>⟨h.1,by
   have:=h.2.look (string_keyed Tryz.underlying9) Tryz.underlying136 (zeroDds W) rfl (WideMaps.keyOf_string_mk Tryz.underlying9 hps);rw[mapG_at,HGR.o]at this;exact this⟩)
  have HS4:Hid (ApS wr.drew cb b.pb w.heap.size bd x (.slice A5 m c5)/\MapIs Tryz.prog 9 okSl wr.drew b.pb rs.length (mapG G)):=zh ⟨Zmw HCr.o.drew HEr.o.drew HBL.o.drew,HPT.o.1.map⟩;obtain⟨i1,hi1,hy0,hy1,hy2⟩:=info_parts Zr0;clear hM how hold hgr;go_wp2_with fail;refine Zaq (fun W=>ApS W cb b.pb w.heap.size bd x (.slice A5 m c5)/\MapIs Tryz.prog 9 okSl W b.pb rs.length (mapG G)) [(0,1),(1,1),(2,1),(3,1),(4,1),(5,1),(6,1),(7,1),(8,1),(9,1),(10,1),(11,1),(12,1),(13,1),(14,2),(15,2),(16,3)] (by kernel_rfl) (by kernel_rfl) HS4.o ?_;simp only[planNL,xq4,xq5]
  repeat (first|(refine Zan _ (by rfl) (fun W hW=>by (obtain⟨⟨x0,x1,x2,x3,x4,x5,x6,x7,x8,x9,x10⟩,hlk⟩:=HLK.o W hW;go_simp;try with_reducible rfl)) ?_;simp only[Act.put,xq1,xq2,xq3])|(refine planN_off (by rfl) ?_;simp only[Act.put,xq1,xq2,xq3])|(refine planN_on0 _ (by rfl) (fun W hW=>by (go_simp;try with_reducible rfl)) ?_;simp only[Act.put,xq1,xq2,xq3]))
  refine Za4 ?_;go_wp2_with fail;obtain⟨w10,hw10⟩:=zG ((wr.alloc (.cells (ddArr x (.slice A5 m c5)) 183)).drew);have hw10':=hw10;unfold ddArr at hw10';rw[hw10'];have HK10:Hid (Kept (fun _=>False) wr w10):=zh (by rw[<-hw10];exact ((Kept.refl _ _).alloc _).drew);have HM10:Hid (MapIs Tryz.prog 9 okSl w10 b.pb rs.length (mapG G)):=zh (HPT.o.1.map.kept HK10.o (fun h=>h));have HO10:Hid (w10.ownsRow 0 183 9 (.slice A8 M c8) M ((R x.person).flatMap rdC)):=zh (owns_kept HOW.o HK10.o (fun _ _ h=>h));have HR10:Hid (RowIn w10 (wr.heap.size+1) 9 (some ⟨wr.heap.size,0,none⟩) 1 (rdC ⟨x,A5,m,c5⟩)):=zh (by rw[<-hw10];exact Ztp wr x A5 m c5 _);have HA10:Hid (ApS w10 cb b.pb w.heap.size bd x (.slice A5 m c5)):=zh (Zmw (HCr.o.kept HK10.o (fun h=>h)) (HEr.o.kept HK10.o (fun h=>h)) (HBL.o.kept HK10.o (fun h=>h)));clear hw10 hw10';refine⟨⟨HA10.o,HM10.o⟩,?_⟩;refine Za4 ?_
  go_wp2_with (first
   | (at_builtin;refine Zaa _ rfl _ _ 181 rfl 0 183 i1 _ 9 120 Tryz.underlying181 hi1 hy0 hy1 hy2 rfl (by omega) (.slice A8 M c8) M _ rfl HO10.o (wr.heap.size+1) (some ⟨wr.heap.size,0,none⟩) 1 1 (rdC ⟨x,A5,m,c5⟩) rfl HR10.o (fun h=>by cases h) (fun u hu=>Zrz [⟨x,A5,m,c5⟩] u (by simpa using hu)) (by unfold maxLen;omega) (by omega) (Nat.zero_le _) ?_;intro v11 w11 ho11 hg11 hv11))
  obtain⟨A9,c9,hv⟩:=own_shape ho11;subst hv;have HKX:Hid (Kept (fun q=>(Value.slice A8 M c8).ownBlock=some q) w10 w11):=zh ((Kept.refl _ _).grown hg11 (fun j hj=>Or.inl hj));have HK11:Hid (Kept (fun q=>q=b.pb\/(Value.slice A8 M c8).ownBlock=some q) wr w11):=zh ((HK10.o.mono (fun _ _ h=>h.elim)).trans' HKX.o (fun _ _ h=>Or.inr h));have HM11:Hid (MapIs Tryz.prog 9 okSl w11 b.pb rs.length (mapG G)):=zh (HM10.o.kept HKX.o (fun h=>Zbe HO10.o HM10.o h))
  have HN1:Hid (∀q,(q=b.pb\/(Value.slice A8 M c8).ownBlock=some q)->q≠cb/\q≠w.heap.size/\q≠bd):=zh (fun q hq=>by
   rcases hq with rfl|hq
   ·exact⟨HPT.o.1.map.ne_blk HCr.o,HPT.o.1.map.ne_blk HEr.o,HPT.o.1.map.ne_blk HBL.o⟩
   ·refine⟨fun e=>Za1 HOW.o HCr.o (by decide) (by rw[<-e];exact hq),fun e=>Za1 HOW.o HEr.o (by decide) (by rw[<-e];exact hq),fun e=>?_⟩;have:=HI3.o.lt q (HI3.o.ur _ _ q (HOLD.o q hq).2 hq);have:=HBD.o.1;omega)
  have HA11:Hid (ApS w11 cb b.pb w.heap.size bd x (.slice A5 m c5)):=zh (Zmw (HCr.o.kept HK11.o (fun h=>(HN1.o _ h).1 rfl)) (HEr.o.kept HK11.o (fun h=>(HN1.o _ h).2.1 rfl)) (HBL.o.kept HK11.o (fun h=>(HN1.o _ h).2.2 rfl)));have HO11:=zh ho11;have HV11:Hid ((Value.slice A9 (M+1) c9).ownBlock=(Value.slice A8 M c8).ownBlock\/∃g,(Value.slice A9 (M+1) c9).ownBlock=some g/\wr.heap.size<=g):=zh (hv11.imp id (fun h=>⟨_,h,HK10.o.size⟩));clear ho11 hg11 hv11;refine⟨⟨HA11.o,HM11.o⟩,?_⟩;refine Zai ?_
  go_wp2_with (first
   | (at_mapUpdate;refine Zag _ rfl _ _ _ 136 rfl 9 181 (string_keyed Tryz.underlying9) Tryz.underlying136 okSl b.pb rs.length (mapG G) rfl HM11.o (by unfold maxLen;omega) _ (.slice A9 (M+1) c9) _ rfl rfl (WideMaps.keyOf_string_mk Tryz.underlying9 hps) rfl ?_;intro w12 hm12 hg12 hs12))
  have HKY:Hid (Kept (fun q=>q=b.pb) w11 w12):=zh ((Kept.refl _ _).grown hg12 (fun j hj=>by cases hj;exact Or.inl rfl));have HK12:Hid (Kept (fun q=>q=b.pb\/(Value.slice A8 M c8).ownBlock=some q) wr w12):=zh (HK11.o.trans' HKY.o (fun _ _ h=>Or.inl h));have HC12:Hid (Blk w12 cb 140 (crCells half (rs.length+1) x b)):=zh (HCr.o.kept HK12.o (fun h=>(HN1.o _ h).1 rfl));have HE12:Hid (Blk w12 w.heap.size 59 (evArr x)):=zh (HEr.o.kept HK12.o (fun h=>(HN1.o _ h).2.1 rfl))
  have HMP12:Hid (MapsIn w12 b rs):=zh (HPT.o.2.2.off HK12.o HI3.o.nd (fun q hq hs=>by
   rcases hs with hs|hs
   ·exact hq.2 hs
   ·exact HPT.o.2.2.nb_row HOW.o hs hq))
  have hO12:w12.ownsRow 0 183 9 (.slice A9 (M+1) c9) (M+1) ((R x.person).flatMap rdC++rdC ⟨x,A5,m,c5⟩):=owns_kept HO11.o HKY.o (fun g hg e=>Zbe HO11.o HM11.o (by rw[<-e];exact hg));have HG12:Hid (GrpIn rdC 9 183 w12 b.pb (rs.length+1) 0 (updG G x.person (.slice A9 (M+1) c9)) (moreR R x.person ⟨x,A5,m,c5⟩)):=zh (HPT.o.1.more HNN.o HOLD.o hm12 HK12.o hO12 HV11.o (by unfold moreR;rw[if_pos rfl]) (fun q hq=>by unfold moreR;rw[if_neg hq]));have HNT:=zh (Zo4 w12 cb b half (rs.length+1) x rs x acc HC12.o HMP12.o HI3.o.nd HSX.o (by omega));unfold evA at HNT;obtain⟨e0,e1,e2,e3,e4,e5,e6,e7⟩:=zC8 HE12.o;clear hm12 hg12 hs12 hO12;refine Zaj ?_;go_wp2_with fail;refine HNT.o.mono ?_;rintro e w13 ⟨rfl,hM13,hK13⟩;have HFIN:Hid (∃U':Nat->Prop,CrAt w13 cb half U' (rs++[⟨x,acc⟩])/\(∀q,U q->U' q)/\(∀q,U' q->U q\/w.heap.size<=q)/\Kept U w w13):=zh (CrIn.more (rd:=⟨x,A5,m,c5⟩) HI3.o HB3.o HI.o.lt HKR.o HBD.o.1 rfl ⟨HMM.o.symm,Zgj HRW.o (Nat.zero_le _)⟩ (fun g hg=>Nat.le_trans (Nat.le_trans HBD.o.1 (Nat.le_of_lt HBD.o.2)) (HRW.o.lt g hg).1) HPT.o.2.1 HK12.o HPT.o.1.map HOW.o (fun g hg=>(HOLD.o g hg).2) HV11.o HG12.o HMP12.o HC12.o hM13 hK13 HCB.o HSX.o (by rw[<-HAC.o];exact fun t ht=>(((Zow ts).2 t).1 ht).2) (by rw[<-HAC.o];exact Nat.le_trans (Zhn ts) (by rw[HN.o];omega)));have HAF:Hid (aftC rs ⟨x,ts⟩=rs++[⟨x,acc⟩]):=zh (by unfold aftC;rw[show takesC rs (⟨x,ts⟩:Rw).e=true from HT.o,if_pos rfl,HAC.o]);clear hM13 hK13 e0 e1 e2 e3 e4 e5 e6 e7;go_wp2_with fail;go_ret;exact⟨Zab HT.o.symm,by rw[HAF.o];exact HFIN.o⟩
end Go.Proofs.YtnpfaajhgghpgaaGreatDoor
