/- A part of the joined base. -/
import Derived.Test.YtnpfaajhgghpgaaGreatDoorU05
import Derived.OrdersHeld
import Derived.Deep.RegionHeld3
import Derived.Deep.MidRow
import Derived.Deep.DeepCutAuto
import Derived.Deep.CutBlock
set_option linter.unusedVariables false
set_option maxHeartbeats 8000000
set_option maxRecDepth 100000
namespace Go.Proofs.YtnpfaajhgghpgaaGreatDoor
open Go.Shelf Go.RowKit Go.Maps
structure Rd where
 e:Ev
 A:Option Addr
 n:Nat
 c:Nat
def rdC (r:Rd):List Value:=evC r.e++[.slice r.A r.n r.c]
theorem Zry (r:Rd):(rdC r).length=9:=rfl
theorem Zrz:∀(l:List Rd),∀u∈l.flatMap rdC,u.oneCell'=true:=by
 intro l u hu;obtain⟨x,_,hx⟩:=List.mem_flatMap.1 hu;simp[rdC,evC]at hx;rcases hx with rfl|rfl|rfl|rfl|rfl|rfl|rfl|rfl|rfl <;> rfl
theorem Zr0:(Tryz.prog.info? 183).map (fun i=>(i.zero,i.size,i.bytes))=some (some (.agg #[.string ⟨#[]⟩,.int .i64 0,.int .i64 0,.int .i64 0,.string ⟨#[]⟩,.string ⟨#[]⟩,.int .i64 0,.string ⟨#[]⟩,.slice none 0 0]),9,120):=by kernel_rfl
def TgAt (w:World)(r:Rd)(ts:List ByteArray):Prop:=r.n=ts.length/\w.ownsRow 0 9 1 (.slice r.A r.n r.c) r.n (ts.map .string)
def DdIs (w:World)(r:Rd)(x:Rw):Prop:=r.e=x.e/\TgAt w r x.ts
def DdsIs (w:World)(l:List Rd)(xs:List Rw):Prop:=l.length=xs.length/\∀(j:Nat) r x,l[j]? = some r->xs[j]? = some x->DdIs w r x
def Rd.blk (r:Rd):Option Nat:=(Value.slice r.A r.n r.c).ownBlock
structure Bs where
 pb:Nat
 db:Nat
 sb:Nat
 hb:Nat
 fb:Nat
 mb:Nat
 lb:Nat
 nb:Nat
def Bs.l (b:Bs):List Nat:=[b.pb,b.db,b.sb,b.hb,b.fb,b.mb,b.lb,b.nb]
def crCells (half:Int)(n:Nat)(e:Ev)(b:Bs):Array Value:=#[.int .i64 half,.int .i64 n,.string e.src,.int .i64 e.num,.int .i64 e.tick,.int .i64 e.kind,.string e.person,.string e.item,.int .i64 e.value,.string e.text,
 .map (some b.pb),.map (some b.db),.map (some b.sb),.map (some b.hb),.map (some b.fb),.map (some b.mb),.map (some b.lb),.map (some b.nb)]
structure MapsIn (w:World) (b:Bs) (rs:List Rw):Prop where
 done:Is2 okBool w b.db rs.length (setF (doneB rs))
 shown:Is2 okInt w b.sb rs.length (cntF (shownN rs))
 hid:Is2 okBool w b.hb rs.length (boolF (hidO rs))
 fol:Is2 okBool w b.fb rs.length (boolF (folO rs))
 mtd:Is2 okBool w b.mb rs.length (boolF (mutO rs))
 lik:Is2 okBool w b.lb rs.length (setF (likB rs))
 fans:MapIs Tryz.prog 9 okInt w b.nb rs.length (mapG (cntG (fansN rs)))
structure CrIn (w:World) (cb:Nat) (b:Bs) (half:Int) (last:Ev) (G:ByteArray->Option Value) (R:ByteArray->List Rd) (U:Nat->Prop) (rs:List Rw):Prop where
 blk:Blk w cb 140 (crCells half rs.length last b)
 lst:∀l,lastE rs=some l->last=l
 ppl:GrpIn rdC 9 183 w b.pb rs.length 0 G R
 rel:∀p,DdsIs w (R p) (ownC rs p)
 maps:MapsIn w b rs
 nd:b.l.Nodup
 uc:U cb
 um:∀q∈b.l,U q
 ur:∀p v g,G p=some v->v.ownBlock=some g->U g
 ut:∀p r g,r∈R p->r.blk=some g->U g
 lt:∀q,U q->q<w.heap.size
 may:∀r∈rs,crB r.e=true
 sh:∀r∈rs,EvSh r.e
 tg:∀r∈rs,∀t∈r.ts,nameB t=true
 tn:∀r∈rs,r.ts.length<=1000
def CrAt (w:World)(cb:Nat)(half:Int)(U:Nat->Prop)(rs:List Rw):Prop:=∃b last G R,CrIn w cb b half last G R U rs
section
variable {w w' : World} {cb : Nat} {b : Bs} {half : Int} {last : Ev} {G : ByteArray -> Option Value} {R : ByteArray -> List Rd} {U S : Nat -> Prop} {rs : List Rw}
theorem MapsIn.kept (h:MapsIn w b rs)(k:Kept S w w')(hS:∀q∈b.l,¬S q):MapsIn w' b rs:=by
 have m:∀q,q∈b.l->¬S q:=hS;unfold Bs.l at m;exact⟨h.done.kept k (m _ (by simp)),h.shown.kept k (m _ (by simp)),h.hid.kept k (m _ (by simp)),h.fol.kept k (m _ (by simp)),h.mtd.kept k (m _ (by simp)),h.lik.kept k (m _ (by simp)),h.fans.kept k (m _ (by simp))⟩
theorem TgAt.kept {r:Rd}{ts:List ByteArray}(h:TgAt w r ts)(k:Kept S w w')(hS:∀g,r.blk=some g->¬S g):TgAt w' r ts:=⟨h.1,owns_kept h.2 k hS⟩
theorem DdsIs.kept {l:List Rd}{xs:List Rw}(h:DdsIs w l xs)(k:Kept S w w')(hS:∀r∈l,∀g,r.blk=some g->¬S g):DdsIs w' l xs:=
 ⟨h.1,fun j r x hr hx=>⟨(h.2 j r x hr hx).1,(h.2 j r x hr hx).2.kept k (hS r (List.mem_of_getElem? hr))⟩⟩
theorem DdsIs.at {l:List Rd}{xs:List Rw}(h:DdsIs w l xs){j:Nat}{x:Rw}(hx:xs[j]? = some x):∃r,l[j]? = some r/\DdIs w r x:=by
 have hj:j<l.length:=by rw[h.1];exact (List.getElem?_eq_some_iff.1 hx).1
 exact⟨l[j],List.getElem?_eq_getElem hj,h.2 j _ x (List.getElem?_eq_getElem hj) hx⟩
theorem CrIn.kept (h:CrIn w cb b half last G R U rs)(k:Kept S w w')(hS:∀q,U q->¬S q):CrIn w' cb b half last G R U rs:=
 ⟨h.blk.kept k (hS _ h.uc),h.lst,h.ppl.kept k (hS _ (h.um _ (by simp[Bs.l]))) (fun p g v hp hg=>hS _ (h.ur p v g hp hg)),fun p=>(h.rel p).kept k (fun r hr g hg=>hS _ (h.ut p r g hr hg)),h.maps.kept k (fun q hq=>hS _ (h.um q hq)),h.nd,h.uc,h.um,h.ur,h.ut,fun q hq=>Nat.lt_of_lt_of_le (h.lt q hq) k.size,h.may,h.sh,h.tg,h.tn⟩
theorem CrAt.kept (h:CrAt w cb half U rs)(k:Kept S w w')(hS:∀q,U q->¬S q):CrAt w' cb half U rs:=by
 obtain⟨b,last,G,R,h⟩:=h;exact⟨b,last,G,R,h.kept k hS⟩
theorem CrAt.below (h:CrAt w cb half U rs)(k:Below w.heap.size w w'):CrAt w' cb half U rs:=h.kept (below_kept (S:=fun _=>False) k (zr _)) (fun _ _ h=>h)
theorem CrAt.lt (h:CrAt w cb half U rs):∀q,U q->q<w.heap.size:=by obtain⟨b,last,G,R,h⟩:=h;exact h.lt
end
end Go.Proofs.YtnpfaajhgghpgaaGreatDoor
namespace Go.Proofs.YtnpfaajhgghpgaaGreatDoor
section
variable {P : Program} {ops : Array Oper} {md : Region.Mode} {Q : Exit -> Act -> World -> Prop} {S : World -> Prop}
def planB (md:Region.Mode)(ops:Array Oper):List (Nat×Bool)->Array Bool->Bool
 | [],listed=>decide (Region.ready md ops listed = [])
 | (i,true)::r,listed=>decide (Region.ready md ops listed = [i])&&planB md ops r (listed.setIfInBounds i true)
 | (i,false)::r,listed=>(Region.ready md ops listed).contains i&&Region.free md ops listed i&&planB md ops r (listed.setIfInBounds i true)
def planL (l:List Oper):List (Nat×Bool)->List (Oper×Bool)
 | []=>[]
 | (i,b)::r=>match l[i]? with|some o=>(o,b)::planL l r|none=>planL l r
def wpPlan (P:Program)(ops:Array Oper)(Q:Exit->Act->World->Prop)(S:World->Prop):List (Oper×Bool)->Act->World->Prop
 | [],a,w=>Q .normal a w
 | (o,true)::r,a,w=>wpList P ops (Exit.then (fun a' w'=>S w'/\wpPlan P ops Q S r a' w') Q) [o] a w
 | (o,false)::r,a,w=>∃v,YieldsIf P ops S o v a/\wpPlan P ops Q S r (a.put o.dst v) w
theorem Zaf {o:Oper}{r:List (Oper×Bool)}{a:Act}{w:World}(v:Value)(hw:Region.wanted o (yielded ops a.tmps)=true)(hy:∀W,S W->(execOp a.eval o).run P W = .ok (.value v) W)(h:wpPlan P ops Q S r (a.put o.dst v) w):wpPlan P ops Q S ((o,false)::r) a w:=
 ⟨v,Or.inl ⟨hw,hy⟩,h⟩
theorem Zac {o:Oper}{r:List (Oper×Bool)}{a:Act}{w:World}(hw:Region.wanted o (yielded ops a.tmps)=false)(h:wpPlan P ops Q S r (a.put o.dst undef) w):wpPlan P ops Q S ((o,false)::r) a w:=
 ⟨undef,Or.inr ⟨hw,rfl⟩,h⟩
theorem Zae {o:Oper}{r:List (Oper×Bool)}{a:Act}{w:World}(h:wpList P ops (Exit.then (fun a' w'=>S w'/\wpPlan P ops Q S r a' w') Q) [o] a w):wpPlan P ops Q S ((o,true)::r) a w:=h
theorem Zah {a:Act}{w:World}(h:Q .normal a w):wpPlan P ops (NoPanic Q) S [] a w:=NoPanic.normal h
theorem Zgm {l:List Oper}(hl:ops=l.toArray)(hsel:Region.noSelect ops=true)(hQ:∀c (a:Act) d v w,Q (.panic c) (a.put d v) w->Q (.panic c) a w):∀(pl:List (Nat×Bool)) (listed:Array Bool) (a:Act) (w:World),planB md ops pl listed=true->S w ->
  wpPlan P ops Q S (planL l pl) a w->wpAnyH P md ops Q S pl.length listed a w
 | [],listed,a,w,hB,hS,h=>⟨of_decide_eq_true hB,h⟩
 | (i,true)::r,listed,a,w,hB,hS,h=>by
  simp only[planB,Bool.and_eq_true,decide_eq_true_eq]at hB;obtain⟨hr,hB'⟩:=hB;have hi:i∈Region.ready md ops listed:=by rw[hr];simp
  obtain⟨_,o,ho,_⟩:=mem_ready.1 hi;have hlo:l[i]? = some o:=by rw[hl]at ho;simpa using ho
  simp only[planL,hlo]at h;refine wpAnyH_all hr (by simp) (fun j hj=>?_);obtain rfl:j=i:=by simpa using hj
  have hw:wpOp P ops Q j (fun a' w'=>S w'/\wpPlan P ops Q S (planL l r) a' w') a w:=by
   unfold wpOp;rw[ho];exact h
  exact wpOp_mono (fun a' w' h'=>⟨h'.1,Zgm hl hsel hQ r _ a' w' hB' h'.1 h'.2⟩) hw
 | (i,false)::r,listed,a,w,hB,hS,h=>by
  simp only[planB,Bool.and_eq_true]at hB;obtain⟨⟨hr,hf⟩,hB'⟩:=hB;have hi:i∈Region.ready md ops listed:=by simpa using hr
  obtain⟨_,o,ho,_⟩:=mem_ready.1 hi;have hlo:l[i]? = some o:=by rw[hl]at ho;simpa using ho
  simp only[planL,hlo]at h;obtain⟨v,hy,h'⟩:=h;exact wpAnyH_take ho hsel hf hr (fun c a w=>hQ c a _ _ w) hy hS (Zgm hl hsel hQ r _ _ w hB' hS h')
theorem Zar {id:Nat}{a:Act}{w:World}{l:List Oper}(S:World->Prop)(pl:List (Nat×Bool))(hm:P.follows .mixedOrders=true)
  (hB:(Region.noSelect l.toArray&&decide (pl.length=l.length)&&planB .any l.toArray pl (Array.replicate l.length false))=true)
  (hS:S w.drew) (h:wpPlan P l.toArray (NoPanic Q) S (planL l pl) a w.drew):(Code.region id l.toArray true).wp P Q a w:=by
 simp only[Bool.and_eq_true,decide_eq_true_eq]at hB;obtain⟨⟨h1,h2⟩,h3⟩:=hB;refine wp_region_noPanic ?_;refine wp_region_held (S:=S) hm ?_;have:=Zgm (md:=.any) rfl h1 (fun c a d v w h=>h) pl _ a w.drew h3 hS h;rw[h2]at this;simpa using this
end
end Go.Proofs.YtnpfaajhgghpgaaGreatDoor
namespace Go.Proofs.YtnpfaajhgghpgaaGreatDoor
section
variable {P : Program} {ops : Array Oper} {md : Region.Mode} {Q : Exit -> Act -> World -> Prop} {S : World -> Prop} {need : Nat -> Bool}
def wpAnyN (P:Program)(md:Region.Mode)(ops:Array Oper)(Q:Exit->Act->World->Prop)(S:World->Prop)(need:Nat->Bool):Nat->Array Bool->Act->World->Prop
 | 0,listed,a,w=>Region.ready md ops listed = []/\Q .normal a w
 | fuel+1,listed,a,w=>
  (Region.ready md ops listed = []->Q .normal a w) /\
  ∀i∈Region.ready md ops listed,wpOp P ops Q i (fun a' w'=>(need i=true->S w')/\wpAnyN P md ops Q S need fuel (listed.setIfInBounds i true) a' w') a w
theorem Zfv:∀(fuel:Nat) (listed:Array Bool) (a:Act) (w:World),wpAnyN P md ops Q S need fuel listed a w->wpAny P md ops Q fuel listed a w
 | 0,_,_,_,h=>h
 | fuel+1,_,_,_,h=>⟨h.1,fun i hi=>wpOp_mono (fun a' w' h'=>Zfv fuel _ a' w' h'.2) (h.2 i hi)⟩
def ShutN (md:Region.Mode)(ops:Array Oper)(listed:Array Bool):Prop:=∀j oj,ops[j]? = some oj->listed.getD j false=true->∀e∈oj.after,Region.binds md e=true->listed.getD e.on false=true
theorem ShutN.start (md:Region.Mode)(ops:Array Oper)(n:Nat):ShutN md ops (Array.replicate n false):=fun j oj _ h=>by rw[getD_replicate_false]at h;cases h
theorem ShutN.set {listed:Array Bool}(h:ShutN md ops listed){i:Nat}(hi:i∈Region.ready md ops listed):ShutN md ops (listed.setIfInBounds i true):=fun j oj hj hl e he hb=>by
 obtain⟨_,oi,hoi,hall⟩:=mem_ready.1 hi;by_cases hji:i=j
 ·subst hji;obtain rfl:oi=oj:=Option.some.inj (hoi.symm.trans hj);exact getD_set_true (by simpa using hall e he hb)
 ·rw[getD_set_ne false hji]at hl;exact getD_set_true (h j oj hj hl e he hb)
def ancB (md:Region.Mode)(ops:Array Oper)(i:Nat):Nat->Nat->Bool
 | 0,_=>false
 | f+1,j=>match ops[j]? with|some o=>o.after.any fun e=>Region.binds md e&&(decide (e.on=i) || ancB md ops i f e.on)|none=>false
theorem Zfw {listed:Array Bool}(h:ShutN md ops listed){i:Nat}:∀(f j:Nat) (oj:Oper),ops[j]? = some oj->(∀e∈oj.after,Region.binds md e=true->listed.getD e.on false=true)->ancB md ops i f j=true->listed.getD i false=true
 | 0,j,oj,_,_,hB=>by cases hB
 | f+1,j,oj,hj,hall,hB=>by
  simp only[ancB,hj]at hB;rw[Array.any_eq_true]at hB;obtain⟨k,hk,hB⟩:=hB;rw[Bool.and_eq_true,Bool.or_eq_true,decide_eq_true_eq]at hB;have he:=hall _ (Array.getElem_mem hk) hB.1;rcases hB.2 with h1|h1
  ·rw[<-h1];exact he
  ·cases ho:ops[(oj.after[k]).on]? with
   | none=>cases f <;> simp[ancB,ho]at h1
   | some o2=>exact Zfw h f _ o2 ho (h _ o2 ho he) h1
theorem Ziw {i:Nat}{oi:Oper}{v:Value}(hi:ops[i]? = some oi)(hsel:∀(j:Nat) (o:Oper) cs b,ops[j]? = some o->o.op≠.select cs b)(hni:need i=false)
  (hQ:∀c a w,Q (.panic c) (a.put oi.dst v) w->Q (.panic c) a w) :
  ∀(fuel:Nat) (listed:Array Bool) (a:Act) (w:World),
   (∀j oj,ops[j]? = some oj->j≠i->listed.getD j true=false->(∀e∈oj.after,Region.binds md e=true->e.on≠i)->oi.apart ops oj=true) ->
   i∈Region.ready md ops listed->YieldsIf P ops (fun _=>True) oi v a ->
   wpAnyN P md ops Q S need fuel (listed.setIfInBounds i true) (a.put oi.dst v) w->wpAnyN P md ops Q S need (fuel+1) listed a w:=by
 intro fuel
 induction fuel with
 | zero=>
  intro listed a w _ hr hy H;refine⟨fun h=>(by rw[h]at hr;cases hr),fun j hj=>?_⟩;by_cases hji:j=i
  ·subst hji;exact hy.wpOp hi trivial ⟨fun h=>(by rw[hni]at h;cases h),H⟩
  ·have:=ready_mono hj hji;rw[H.1]at this;cases this
 | succ fuel ih=>
  intro listed a w hfree hr hy H;refine⟨fun h=>(by rw[h]at hr;cases hr),fun j hj=>?_⟩;by_cases hji:j=i
  ·subst hji;exact hy.wpOp hi trivial ⟨fun h=>(by rw[hni]at h;cases h),H⟩
  ·have h1:=H.2 j (ready_mono hj hji);obtain⟨hjun,oj,hoj,hall⟩:=mem_ready.1 hj;have hun:=(mem_ready.1 hr).1;have hnot:∀e∈oj.after,Region.binds md e=true->e.on≠i:=by
    rintro e he hb rfl;have h1:=hall e he hb;rw[getD_both hun]at h1;cases h1
   have h2:=wpOp_putIf hoj (hfree j oj hoj hji hjun hnot) (fun cs b=>hsel i oi cs b hi) (fun cs b=>hsel j oj cs b hoj) hQ hy h1
   have hfree':∀k ok,ops[k]? = some ok->k≠i->(listed.setIfInBounds j true).getD k true=false ->
     (∀e∈ok.after,Region.binds md e=true->e.on≠i)->oi.apart ops ok=true:=fun k ok hk hki hunk hno=>by
    refine hfree k ok hk hki ?_ hno;by_cases hjk:j=k
    ·subst hjk;exact hjun
    ·rw[getD_set_ne true hjk]at hunk;exact hunk
   refine wpOp_mono (fun a' w' h3=>⟨h3.2.1,ih (listed.setIfInBounds j true) a' w' hfree' (ready_mono hr (Ne.symm hji)) h3.1 ?_⟩) h2;rw[Array.setIfInBounds_comm _ _ hji];exact h3.2.2
theorem Zix {i:Nat}{oi:Oper}{v:Value}(hi:ops[i]? = some oi)(hsel:∀(j:Nat) (o:Oper) cs b,ops[j]? = some o->o.op≠.select cs b)
  (hQ:∀c a w,Q (.panic c) (a.put oi.dst v) w->Q (.panic c) a w) (fa:Nat) (hneed:∀j,j<ops.size->j≠i->need j=false->ancB md ops i fa j=true) :
  ∀(fuel:Nat) (listed:Array Bool) (a:Act) (w:World),ShutN md ops listed ->
   (∀j oj,ops[j]? = some oj->j≠i->listed.getD j true=false->(∀e∈oj.after,Region.binds md e=true->e.on≠i)->oi.apart ops oj=true) ->
   i∈Region.ready md ops listed->YieldsIf P ops S oi v a->S w ->
   wpAnyN P md ops Q S need fuel (listed.setIfInBounds i true) (a.put oi.dst v) w->wpAnyN P md ops Q S need (fuel+1) listed a w:=by
 intro fuel
 induction fuel with
 | zero=>
  intro listed a w _ _ hr hy hS H;refine⟨fun h=>(by rw[h]at hr;cases hr),fun j hj=>?_⟩;by_cases hji:j=i
  ·subst hji;exact hy.wpOp hi hS ⟨fun _=>hS,H⟩
  ·have:=ready_mono hj hji;rw[H.1]at this;cases this
 | succ fuel ih=>
  intro listed a w hsh hfree hr hy hS H;refine⟨fun h=>(by rw[h]at hr;cases hr),fun j hj=>?_⟩;by_cases hji:j=i
  ·subst hji;exact hy.wpOp hi hS ⟨fun _=>hS,H⟩
  ·have h1:=H.2 j (ready_mono hj hji);obtain⟨hjun,oj,hoj,hall⟩:=mem_ready.1 hj;have hun:=(mem_ready.1 hr).1;have hnot:∀e∈oj.after,Region.binds md e=true->e.on≠i:=by
    rintro e he hb rfl;have h1:=hall e he hb;rw[getD_both hun]at h1;cases h1
   have hnj:need j=true:=by
    cases hn:need j with
    | true=>rfl
    | false=>
     exfalso;have:=Zfw hsh fa j oj hoj (fun e he hb=>by simpa using hall e he hb) (hneed j (Array.getElem?_eq_some_iff.1 hoj).1 hji hn);rw[getD_both hun]at this;cases this
   have h2:=wpOp_putIf hoj (hfree j oj hoj hji hjun hnot) (fun cs b=>hsel i oi cs b hi) (fun cs b=>hsel j oj cs b hoj) hQ hy h1
   have hfree':∀k ok,ops[k]? = some ok->k≠i->(listed.setIfInBounds j true).getD k true=false ->
     (∀e∈ok.after,Region.binds md e=true->e.on≠i)->oi.apart ops ok=true:=fun k ok hk hki hunk hno=>by
    refine hfree k ok hk hki ?_ hno;by_cases hjk:j=k
    ·subst hjk;exact hjun
    ·rw[getD_set_ne true hjk]at hunk;exact hunk
   refine wpOp_mono (fun a' w' h3=>⟨h3.2.1,ih (listed.setIfInBounds j true) a' w' (hsh.set hj) hfree' (ready_mono hr (Ne.symm hji)) h3.1 (h3.2.1 hnj) ?_⟩) h2;rw[Array.setIfInBounds_comm _ _ hji];exact h3.2.2
def planNB (md:Region.Mode)(ops:Array Oper)(need:Nat->Bool):List (Nat×Nat)->Bool->Array Bool->Bool
 | [],_,listed=>decide (Region.ready md ops listed = [])
 | (i,0)::r,alive,listed=>!alive && !need i&&(Region.ready md ops listed).contains i&&Region.free md ops listed i&&planNB md ops need r alive (listed.setIfInBounds i true)
 | (i,1)::r,alive,listed=>alive&&(Region.ready md ops listed).contains i&&Region.free md ops listed i&&((List.range ops.size).all fun j=>decide (j=i) || need j || ancB md ops i ops.size j)&&planNB md ops need r alive (listed.setIfInBounds i true)
 | (i,2)::r,alive,listed=>alive&&decide (Region.ready md ops listed = [i])&&planNB md ops need r alive (listed.setIfInBounds i true)
 | (i,_+3)::r,alive,listed=>!need i&&decide (Region.ready md ops listed = [i])&&planNB md ops need r false (listed.setIfInBounds i true)
def planNL (l:List Oper):List (Nat×Nat)->List (Oper×Nat)
 | []=>[]
 | (i,b)::r=>match l[i]? with|some o=>(o,b)::planNL l r|none=>planNL l r
def wpPlanN (P:Program)(ops:Array Oper)(Q:Exit->Act->World->Prop)(S:World->Prop):List (Oper×Nat)->Act->World->Prop
 | [],a,w=>Q .normal a w
 | (o,0)::r,a,w=>∃v,YieldsIf P ops (fun _=>True) o v a/\wpPlanN P ops Q S r (a.put o.dst v) w
 | (o,1)::r,a,w=>∃v,YieldsIf P ops S o v a/\wpPlanN P ops Q S r (a.put o.dst v) w
 | (o,2)::r,a,w=>wpList P ops (Exit.then (fun a' w'=>S w'/\wpPlanN P ops Q S r a' w') Q) [o] a w
 | (o,_+3)::r,a,w=>wpList P ops (Exit.then (fun a' w'=>wpPlanN P ops Q S r a' w') Q) [o] a w
theorem Zan {o:Oper}{r:List (Oper×Nat)}{a:Act}{w:World}(v:Value)(hw:Region.wanted o (yielded ops a.tmps)=true)(hy:∀W,S W->(execOp a.eval o).run P W = .ok (.value v) W)(h:wpPlanN P ops Q S r (a.put o.dst v) w):wpPlanN P ops Q S ((o,1)::r) a w:=
 ⟨v,Or.inl ⟨hw,hy⟩,h⟩
theorem planN_on0 {o:Oper}{r:List (Oper×Nat)}{a:Act}{w:World}(v:Value)(hw:Region.wanted o (yielded ops a.tmps)=true)(hy:∀W,True->(execOp a.eval o).run P W = .ok (.value v) W)(h:wpPlanN P ops Q S r (a.put o.dst v) w):wpPlanN P ops Q S ((o,0)::r) a w:=
 ⟨v,Or.inl ⟨hw,hy⟩,h⟩
theorem Za4 {o:Oper}{r:List (Oper×Nat)}{a:Act}{w:World}(h:wpList P ops (Exit.then (fun a' w'=>S w'/\wpPlanN P ops Q S r a' w') Q) [o] a w):wpPlanN P ops Q S ((o,2)::r) a w:=h
theorem Zai {o:Oper}{r:List (Oper×Nat)}{a:Act}{w:World}(h:wpList P ops (Exit.then (fun a' w'=>wpPlanN P ops Q S r a' w') Q) [o] a w):wpPlanN P ops Q S ((o,3)::r) a w:=h
theorem Zaj {a:Act}{w:World}(h:Q .normal a w):wpPlanN P ops (NoPanic Q) S [] a w:=NoPanic.normal h
theorem Zct {l:List Oper}(hl:ops=l.toArray)(hsel:Region.noSelect ops=true)(hQ:∀c (a:Act) d v w,Q (.panic c) (a.put d v) w->Q (.panic c) a w):∀(pl:List (Nat×Nat)) (alive:Bool) (listed:Array Bool) (a:Act) (w:World),planNB md ops need pl alive listed=true->ShutN md ops listed->(alive=true->S w) ->
  wpPlanN P ops Q S (planNL l pl) a w->wpAnyN P md ops Q S need pl.length listed a w
 | [],alive,listed,a,w,hB,_,hS,h=>⟨of_decide_eq_true hB,h⟩
 | (i,0)::r,alive,listed,a,w,hB,hsh,hS,h=>by
  simp only[planNB,Bool.and_eq_true,Bool.not_eq_true']at hB;obtain⟨⟨⟨⟨ha,hn⟩,hr⟩,hf⟩,hB'⟩:=hB;have hi:i∈Region.ready md ops listed:=by simpa using hr
  obtain⟨_,o,ho,_⟩:=mem_ready.1 hi;have hlo:l[i]? = some o:=by rw[hl]at ho;simpa using ho
  simp only[planNL,hlo]at h;obtain⟨v,hy,h'⟩:=h;exact Ziw ho (Region.noSelect_spec hsel) hn (fun c a w=>hQ c a _ _ w) r.length listed a w (Region.free_spec ho hf) hi hy (Zct hl hsel hQ r alive _ _ w hB' (hsh.set hi) (fun h=>by rw[ha]at h;cases h) h')
 | (i,1)::r,alive,listed,a,w,hB,hsh,hS,h=>by
  simp only[planNB,Bool.and_eq_true]at hB;obtain⟨⟨⟨⟨ha,hr⟩,hf⟩,hnd⟩,hB'⟩:=hB;have hi:i∈Region.ready md ops listed:=by simpa using hr
  obtain⟨_,o,ho,_⟩:=mem_ready.1 hi;have hlo:l[i]? = some o:=by rw[hl]at ho;simpa using ho
  simp only[planNL,hlo]at h;obtain⟨v,hy,h'⟩:=h;refine Zix ho (Region.noSelect_spec hsel) (fun c a w=>hQ c a _ _ w) ops.size (fun j hj hji hn=>?_) r.length listed a w hsh (Region.free_spec ho hf) hi hy (hS ha) (Zct hl hsel hQ r alive _ _ w hB' (hsh.set hi) hS h');have:=List.all_eq_true.1 hnd j (List.mem_range.2 hj);rw[Bool.or_eq_true,Bool.or_eq_true,decide_eq_true_eq,hn]at this;rcases this with (h1|h1)|h1
  ·exact absurd h1 hji
  ·cases h1
  ·exact h1
 | (i,2)::r,alive,listed,a,w,hB,hsh,hS,h=>by
  simp only[planNB,Bool.and_eq_true,decide_eq_true_eq]at hB;obtain⟨⟨ha,hr⟩,hB'⟩:=hB;have hi:i∈Region.ready md ops listed:=by rw[hr];simp
  obtain⟨_,o,ho,_⟩:=mem_ready.1 hi;have hlo:l[i]? = some o:=by rw[hl]at ho;simpa using ho
  simp only[planNL,hlo]at h;refine⟨fun h0=>(by rw[hr]at h0;cases h0),fun j hj=>?_⟩;rw[hr]at hj;obtain rfl:j=i:=by simpa using hj
  have hw:wpOp P ops Q j (fun a' w'=>S w'/\wpPlanN P ops Q S (planNL l r) a' w') a w:=by
   unfold wpOp;rw[ho];exact h
  exact wpOp_mono (fun a' w' h'=>⟨fun _=>h'.1,Zct hl hsel hQ r alive _ a' w' hB' (hsh.set hi) (fun _=>h'.1) h'.2⟩) hw
 | (i,k+3)::r,alive,listed,a,w,hB,hsh,hS,h=>by
  simp only[planNB,Bool.and_eq_true,Bool.not_eq_true',decide_eq_true_eq]at hB;obtain⟨⟨hn,hr⟩,hB'⟩:=hB;have hi:i∈Region.ready md ops listed:=by rw[hr];simp
  obtain⟨_,o,ho,_⟩:=mem_ready.1 hi;have hlo:l[i]? = some o:=by rw[hl]at ho;simpa using ho
  simp only[planNL,hlo]at h;refine⟨fun h0=>(by rw[hr]at h0;cases h0),fun j hj=>?_⟩;rw[hr]at hj;obtain rfl:j=i:=by simpa using hj
  have hw:wpOp P ops Q j (fun a' w'=>wpPlanN P ops Q S (planNL l r) a' w') a w:=by
   unfold wpOp;rw[ho];exact h
  exact wpOp_mono (fun a' w' h'=>⟨fun h0=>(by rw[hn]at h0;cases h0),Zct hl hsel hQ r false _ a' w' hB' (hsh.set hi) (fun h0=>by cases h0) h'⟩) hw
def needOf (pl:List (Nat×Nat))(j:Nat):Bool:=(pl.takeWhile fun p=>p.2 != 3).any fun p=>p.1 == j
theorem Zaq {id:Nat}{a:Act}{w:World}{l:List Oper}(S:World->Prop)(pl:List (Nat×Nat))(hm:P.follows .mixedOrders=true)
  (hB:(Region.noSelect l.toArray&&decide (pl.length=l.length)&&planNB .any l.toArray (needOf pl) pl true (Array.replicate l.length false))=true)
  (hS:S w.drew) (h:wpPlanN P l.toArray (NoPanic Q) S (planNL l pl) a w.drew):(Code.region id l.toArray true).wp P Q a w:=by
 simp only[Bool.and_eq_true,decide_eq_true_eq]at hB;obtain⟨⟨h1,h2⟩,h3⟩:=hB;refine wp_region_noPanic ?_;refine wp_region_any hm (Zfv (S:=S) (need:=needOf pl) _ _ _ _ ?_);have:=Zct (md:=.any) rfl h1 (fun c a d v w h=>h) pl true _ a w.drew h3 (ShutN.start _ _ _) (fun _=>hS) h;rw[h2]at this;simpa using this
end
end Go.Proofs.YtnpfaajhgghpgaaGreatDoor
namespace Go.Proofs.YtnpfaajhgghpgaaGreatDoor
open Go.RowKit
def putA (cs:Array Value):Nat->List Value->Array Value
 | _,[]=>cs
 | o,v::r=>putA (cs.setIfInBounds o v) (o+1) r
section
variable {P : Program} {w w' : World} {g : Nat} {t : TypeId} {cs : Array Value}
theorem Blk.setCells:∀(vs:List Value) (o:Nat) (w:World) (cs:Array Value),Blk w g t cs->Blk (w.setCells g o vs) g t (putA cs o vs)
 | [],_,_,_,h=>h
 | v::r,o,w,cs,h=>Blk.setCells r (o+1) _ _ (h.set_ o v)
theorem Zdp:∀(vs:List Value) (o:Nat) (a w:World),Kept (fun q=>q=g) a w->Kept (fun q=>q=g) a (w.setCells g o vs)
 | [],_,_,_,h=>h
 | v::r,o,a,w,h=>Zdp r (o+1) a _ (h.setCell (Or.inl rfl) v)
theorem Zdq:∀(vs:List Value) (o:Nat) (w:World),(w.setCells g o vs).heap.size=w.heap.size
 | [],_,_=>rfl
 | v::r,o,w=>by rw[World.setCells,Zdq r];simp[World.setCell]
theorem Blk.there (h:Blk w g t cs){o n:Nat}(hn:o+n<=cs.size):w.there g o n:=fun j hj=>⟨by rw[h.cell,Array.getElem?_eq_getElem (by omega)];rfl,h.frozen _⟩
theorem Zhq {o:Oper}{a:Act}{K:Act->World->Prop}{Q:Exit->Act->World->Prop}(w:World)(ty:TypeId)(x y:Operand)(ho:o.op = .store ty x y)(off:Nat)(cells:Array Value)(hx:a.eval x = .pointer (some ⟨g,off,none⟩))(hy:a.eval y = .agg cells)
  (hb:Blk w g t cs) (hle:off+cells.size<=cs.size) (hi:(P.info? ty).map (·.size)=some cells.size) (h1:cells.all (·.oneCell')=true)
  (h:∀w',Blk w' g t (putA cs off cells.toList)->Kept (fun q=>q=g) w w'->w'.heap.size=w.heap.size->K (a.put o.dst undef) w'):o.wp P a w K Q:=
 wp_store_mid ty x y ho g off cells hx hy (hb.there hle) hi h1 (h _ (Blk.setCells _ _ _ _ hb) (Zdp _ _ _ _ (Kept.refl _ _)) (Zdq _ _ _))
theorem Zad {ops:Array Oper}{rest:List Oper}{o:Oper}{a:Act}{Q:Exit->Act->World->Prop}(w:World)(hgd:o.guard=none)(ty:TypeId)(x y:Operand)(ho:o.op = .store ty x y)(off:Nat)(cells:Array Value)(hx:a.eval x = .pointer (some ⟨g,off,none⟩))(hy:a.eval y = .agg cells)
  (hb:Blk w g t cs) (hle:off+cells.size<=cs.size) (hi:(P.info? ty).map (·.size)=some cells.size) (h1:cells.all (·.oneCell')=true)
  (h:∀w',Blk w' g t (putA cs off cells.toList)->Kept (fun q=>q=g) w w'->w'.heap.size=w.heap.size->wpList P ops Q rest (a.put o.dst undef) w'):wpList P ops Q (o::rest) a w:=
 wpList_plain hgd fun _ hK=>Zhq w ty x y ho off cells hx hy hb hle hi h1 fun w' h2 h3 h4=>hK _ _ (h w' h2 h3 h4)
end
end Go.Proofs.YtnpfaajhgghpgaaGreatDoor
namespace Go.Proofs.YtnpfaajhgghpgaaGreatDoor
open Go.Shelf Go.RowKit Go.Maps
section
variable (rs : List Rw) (x : Ev) (ts : List ByteArray)
theorem Zo2 (h:¬(x.kind=2\/x.kind=3))(a b:ByteArray):setF (doneB (rs++[⟨x,ts⟩])) a b=setF (doneB rs) a b:=by
 unfold setF;rw[Zft];simp[h]
theorem Zr1 (h:x.kind=2\/x.kind=3)(a b:ByteArray):setF (doneB (rs++[⟨x,ts⟩])) a b=upd2 (setF (doneB rs)) x.person x.item (.bool true) a b:=by
 unfold upd2 setF;rw[Zft];unfold isR;by_cases e:a=x.person/\b=x.item
 ·obtain⟨rfl,rfl⟩:=e;simp[h]
 ·rw[if_neg e];have:¬(x.person=a/\x.item=b):=fun h2=>e ⟨h2.1.symm,h2.2.symm⟩;simp[this]
theorem Zmr (h:¬x.kind=0)(a b:ByteArray):cntF (shownN (rs++[⟨x,ts⟩])) a b=cntF (shownN rs) a b:=by
 unfold cntF;rw[Ze7];simp[h]
theorem Zo3 (h:x.kind=0)(a b:ByteArray):cntF (shownN (rs++[⟨x,ts⟩])) a b=upd2 (cntF (shownN rs)) x.person x.item (.int .i64 ((shownN rs x.person x.item:Int)+1)) a b:=by
 unfold upd2 cntF;rw[Ze7];unfold isR;by_cases e:a=x.person/\b=x.item
 ·obtain⟨rfl,rfl⟩:=e;simp[h]
 ·rw[if_neg e];have:¬(x.person=a/\x.item=b):=fun h2=>e ⟨h2.1.symm,h2.2.symm⟩;simp[this]
theorem Zgn (f:Rw->Bool)(k1 k2:Int)(h:¬(x.kind=k1\/x.kind=k2)):wordO f k1 k2 (rs++[⟨x,ts⟩])=wordO f k1 k2 rs:=by
 rw[Zb7];simp[h]
theorem Zr2 (h:¬(x.kind=5\/x.kind=6))(a b:ByteArray):boolF (hidO (rs++[⟨x,ts⟩])) a b=boolF (hidO rs) a b:=by
 unfold boolF hidO;rw[Zgn rs x ts _ _ _ h]
theorem Zr3 (h:¬(x.kind=7\/x.kind=8))(a b:ByteArray):boolF (folO (rs++[⟨x,ts⟩])) a b=boolF (folO rs) a b:=by
 unfold boolF folO;rw[Zgn rs x ts _ _ _ h]
theorem Zr4 (h:¬(x.kind=9\/x.kind=10))(a b:ByteArray):boolF (mutO (rs++[⟨x,ts⟩])) a b=boolF (mutO rs) a b:=by
 unfold boolF mutO;rw[Zgn rs x ts _ _ _ h]
theorem Ztk (h:x.kind=5\/x.kind=6)(a b:ByteArray):boolF (hidO (rs++[⟨x,ts⟩])) a b=upd2 (boolF (hidO rs)) x.person x.item (.bool (decide (x.kind=5))) a b:=by
 unfold upd2 boolF hidO;rw[Zb7];unfold isR;by_cases e:a=x.person/\b=x.item
 ·obtain⟨rfl,rfl⟩:=e;simp[h]
 ·rw[if_neg e];have:¬(x.person=a/\x.item=b):=fun h2=>e ⟨h2.1.symm,h2.2.symm⟩;simp[this]
theorem Ztl (h:x.kind=7\/x.kind=8)(a b:ByteArray):boolF (folO (rs++[⟨x,ts⟩])) a b=upd2 (boolF (folO rs)) x.person x.text (.bool (decide (x.kind=7))) a b:=by
 unfold upd2 boolF folO;rw[Zb7];unfold isT;by_cases e:a=x.person/\b=x.text
 ·obtain⟨rfl,rfl⟩:=e;simp[h]
 ·rw[if_neg e];have:¬(x.person=a/\x.text=b):=fun h2=>e ⟨h2.1.symm,h2.2.symm⟩;simp[this]
theorem Ztm (h:x.kind=9\/x.kind=10)(a b:ByteArray):boolF (mutO (rs++[⟨x,ts⟩])) a b=upd2 (boolF (mutO rs)) x.person x.text (.bool (decide (x.kind=9))) a b:=by
 unfold upd2 boolF mutO;rw[Zb7];unfold isT;by_cases e:a=x.person/\b=x.text
 ·obtain⟨rfl,rfl⟩:=e;simp[h]
 ·rw[if_neg e];have:¬(x.person=a/\x.text=b):=fun h2=>e ⟨h2.1.symm,h2.2.symm⟩;simp[this]
theorem Zr5 (h:¬0<worthP x)(a b:ByteArray):setF (likB (rs++[⟨x,ts⟩])) a b=setF (likB rs) a b:=by
 unfold setF;rw[Zb8];simp[h]
theorem Ztn (h:0<worthP x)(a b:ByteArray):setF (likB (rs++[⟨x,ts⟩])) a b=upd2 (setF (likB rs)) x.person x.item (.bool true) a b:=by
 unfold upd2 setF;rw[Zb8];unfold isR;by_cases e:a=x.person/\b=x.item
 ·obtain⟨rfl,rfl⟩:=e;simp[h]
 ·rw[if_neg e];have:¬(x.person=a/\x.item=b):=fun h2=>e ⟨h2.1.symm,h2.2.symm⟩;simp[this]
theorem Zr6 (h:likB rs x.person x.item=true)(a b:ByteArray):setF (likB (rs++[⟨x,ts⟩])) a b=setF (likB rs) a b:=by
 unfold setF;rw[Zb8];unfold isR;by_cases e:a=x.person/\b=x.item
 ·obtain⟨rfl,rfl⟩:=e;simp[h]
 ·have:¬(x.person=a/\x.item=b):=fun h2=>e ⟨h2.1.symm,h2.2.symm⟩;simp[this]
theorem Zhr (h:¬(0<worthP x/\likB rs x.person x.item=false))(i:ByteArray):fansN (rs++[⟨x,ts⟩]) i=fansN rs i:=by
 rw[Zd6,if_neg (fun q=>h ⟨q.2.1,by rw[show x.item=i from q.1];exact q.2.2⟩)];rfl
theorem Zms (h1:0<worthP x)(h2:likB rs x.person x.item=false):fansN (rs++[⟨x,ts⟩])=bmpS (fansN rs) x.item:=by
 funext i
 rw[Zd6];unfold bmpS;by_cases e:i=x.item
 ·subst e;rw[if_pos (show x.item=x.item/\0<worthP x/\likB rs x.person x.item=false from ⟨rfl,h1,h2⟩),if_pos rfl]
 ·rw[if_neg (fun q=>e (show x.item=i from q.1).symm),if_neg e];rfl
end
structure MapsMid (w:World) (b:Bs) (r1 rs:List Rw):Prop where
 done:Is2 okBool w b.db r1.length (setF (doneB r1))
 shown:Is2 okInt w b.sb r1.length (cntF (shownN r1))
 hid:Is2 okBool w b.hb r1.length (boolF (hidO r1))
 fol:Is2 okBool w b.fb r1.length (boolF (folO r1))
 mtd:Is2 okBool w b.mb r1.length (boolF (mutO r1))
 lik:Is2 okBool w b.lb rs.length (setF (likB rs))
 fans:MapIs Tryz.prog 9 okInt w b.nb rs.length (mapG (cntG (fansN rs)))
theorem len1 (rs:List Rw)(r:Rw):(rs++[r]).length=rs.length+1:=by simp
theorem Zfx {w w':World}{b:Bs}{rs:List Rw}{S:Nat->Prop}(h:MapsIn w b rs)(k:Kept S w w')(r:Rw)
  (hd:(¬S b.db/\¬(r.e.kind=2\/r.e.kind=3))\/Is2 okBool w' b.db (rs.length+1) (setF (doneB (rs++[r]))))
  (hs:(¬S b.sb/\¬r.e.kind=0)\/Is2 okInt w' b.sb (rs.length+1) (cntF (shownN (rs++[r]))))
  (hh:(¬S b.hb/\¬(r.e.kind=5\/r.e.kind=6))\/Is2 okBool w' b.hb (rs.length+1) (boolF (hidO (rs++[r]))))
  (hf:(¬S b.fb/\¬(r.e.kind=7\/r.e.kind=8))\/Is2 okBool w' b.fb (rs.length+1) (boolF (folO (rs++[r]))))
  (hm:(¬S b.mb/\¬(r.e.kind=9\/r.e.kind=10))\/Is2 okBool w' b.mb (rs.length+1) (boolF (mutO (rs++[r])))) (hl:¬S b.lb) (hn:¬S b.nb):MapsMid w' b (rs++[r]) rs:=by
 refine⟨?_,?_,?_,?_,?_,h.lik.kept k hl,h.fans.kept k hn⟩ <;> rw[len1]
 ·rcases hd with ⟨h1,h2⟩|hd
  ·exact ((h.done.kept k h1).mono (Nat.le_succ _)).congr (fun a b=>(Zo2 rs r.e r.ts h2 a b).symm)
  ·exact hd
 ·rcases hs with ⟨h1,h2⟩|hd
  ·exact ((h.shown.kept k h1).mono (Nat.le_succ _)).congr (fun a b=>(Zmr rs r.e r.ts h2 a b).symm)
  ·exact hd
 ·rcases hh with ⟨h1,h2⟩|hd
  ·exact ((h.hid.kept k h1).mono (Nat.le_succ _)).congr (fun a b=>(Zr2 rs r.e r.ts h2 a b).symm)
  ·exact hd
 ·rcases hf with ⟨h1,h2⟩|hd
  ·exact ((h.fol.kept k h1).mono (Nat.le_succ _)).congr (fun a b=>(Zr3 rs r.e r.ts h2 a b).symm)
  ·exact hd
 ·rcases hm with ⟨h1,h2⟩|hd
  ·exact ((h.mtd.kept k h1).mono (Nat.le_succ _)).congr (fun a b=>(Zr4 rs r.e r.ts h2 a b).symm)
  ·exact hd
theorem MapsMid.end {w w':World}{b:Bs}{rs:List Rw}{r:Rw}{S:Nat->Prop}(h:MapsMid w b (rs++[r]) rs)(k:Kept S w w')(hS:∀q∈b.l,q≠b.pb->q≠b.lb->q≠b.nb->¬S q)(hnd:b.l.Nodup)
  (hl:Is2 okBool w' b.lb (rs.length+1) (setF (likB (rs++[r])))) (hn:MapIs Tryz.prog 9 okInt w' b.nb (rs.length+1) (mapG (cntG (fansN (rs++[r]))))):MapsIn w' b (rs++[r]):=by
 have hne:=hnd;unfold Bs.l at hne;simp only[List.nodup_cons,List.mem_cons,List.not_mem_nil,or_false,not_or,List.nodup_nil,and_true,not_false_eq_true]at hne;obtain⟨⟨a1,a2,a3,a4,a5,a6,a7⟩,⟨b1,b2,b3,b4,b5,b6⟩,⟨c1,c2,c3,c4,c5⟩,⟨d1,d2,d3,d4⟩,⟨e1,e2,e3⟩,⟨f1,f2⟩,g1⟩:=hne;refine⟨h.done.kept k (hS b.db (by simp[Bs.l]) (Ne.symm a1) b5 b6),h.shown.kept k (hS b.sb (by simp[Bs.l]) (Ne.symm a2) c4 c5),h.hid.kept k (hS b.hb (by simp[Bs.l]) (Ne.symm a3) d3 d4),h.fol.kept k (hS b.fb (by simp[Bs.l]) (Ne.symm a4) e2 e3),h.mtd.kept k (hS b.mb (by simp[Bs.l]) (Ne.symm a5) f1 f2),?_,?_⟩
 ·rw[len1];exact hl
 ·rw[len1];exact hn
def NB (b:Bs)(q:Nat):Prop:=q∈b.l/\q≠b.pb
theorem Zgo {b:Bs}{q:Nat}(h:NB b q):q=b.db\/q=b.sb\/q=b.hb\/q=b.fb\/q=b.mb\/q=b.lb\/q=b.nb:=by
 obtain⟨h1,h2⟩:=h;unfold Bs.l at h1;simp only[List.mem_cons,List.not_mem_nil,or_false]at h1;omega
theorem MapsIn.nb_lt {w:World}{b:Bs}{rs:List Rw}(h:MapsIn w b rs){q:Nat}(hq:NB b q):q<w.heap.size:=by
 rcases Zgo hq with rfl|rfl|rfl|rfl|rfl|rfl|rfl
 ·exact h.done.lt
 ·exact h.shown.lt
 ·exact h.hid.lt
 ·exact h.fol.lt
 ·exact h.mtd.lt
 ·exact h.lik.lt
 ·exact h.fans.lt
theorem MapsIn.nb_ne {w:World}{b:Bs}{rs:List Rw}(h:MapsIn w b rs){g:Nat}{t:TypeId}{cs:Array Value}(hg:Blk w g t cs):¬NB b g:=fun hq=>by
 rcases Zgo hq with h1|h1|h1|h1|h1|h1|h1
 ·exact h.done.ne_blk hg h1.symm
 ·exact h.shown.ne_blk hg h1.symm
 ·exact h.hid.ne_blk hg h1.symm
 ·exact h.fol.ne_blk hg h1.symm
 ·exact h.mtd.ne_blk hg h1.symm
 ·exact h.lik.ne_blk hg h1.symm
 ·exact h.fans.ne_blk hg h1.symm
def Lk2 (w1:World)(x:Ev)(v4 v5:Value)(wx:World):Prop:=∃b4 b5:Nat,v4 = .pointer (some ⟨b4,0,none⟩)/\v5 = .pointer (some ⟨b5,0,none⟩)/\Blk wx b4 142 #[.string x.person,.string x.item]/\Blk wx b5 142 #[.string x.person,.string x.text]/\w1.heap.size<=b4/\w1.heap.size<=b5/\Below w1.heap.size w1 wx
theorem lk_1 (w1:World)(x:Ev):Lk2 w1 x (.pointer (some ⟨w1.heap.size,0,none⟩)) (.pointer (some ⟨w1.heap.size+1,0,none⟩)) ((w1.alloc (.cells #[.string x.person,.string x.item] 142)).alloc (.cells #[.string x.person,.string x.text] 142)).drew:=by
 have h2:=Blk.new (w1.alloc (.cells #[.string x.person,.string x.item] 142)) 142 #[.string x.person,.string x.text];rw[World.size_alloc]at h2;exact⟨_,_,rfl,rfl,((Blk.new w1 142 #[.string x.person,.string x.item]).alloc _).drew,h2.drew,zr _,Nat.le_succ _,below_drew (((Below.refl _ _).alloc (zr _) _).alloc (by simp) _)⟩
theorem lk_2 (w1:World)(x:Ev):Lk2 w1 x (.pointer (some ⟨w1.heap.size+1,0,none⟩)) (.pointer (some ⟨w1.heap.size,0,none⟩)) ((w1.alloc (.cells #[.string x.person,.string x.text] 142)).alloc (.cells #[.string x.person,.string x.item] 142)).drew:=by
 have h2:=Blk.new (w1.alloc (.cells #[.string x.person,.string x.text] 142)) 142 #[.string x.person,.string x.item];rw[World.size_alloc]at h2;exact⟨_,_,rfl,rfl,h2.drew,((Blk.new w1 142 #[.string x.person,.string x.text]).alloc _).drew,Nat.le_succ _,zr _,below_drew (((Below.refl _ _).alloc (zr _) _).alloc (by simp) _)⟩
theorem Zhs (x:Ev)(w:World):Calls Tryz.prog 90 #[evA x] w fun e w'=>e = .returned (.int .i64 (worthP x))/\Below w.heap.size w w':=by
 have HW:Hid (worthP x=if x.kind=1 then 1 else if x.kind=2 then 3 else if x.kind=3 then 5 else if x.kind=4 then x.value else 0):=zh rfl;generalize worthP x=q at *;obtain⟨s0,n0,t0,k0,p0,i0,v0,x0⟩:=x;dsimp only at HW;unfold evA;dsimp only;obtain⟨w1,hw1⟩:=zG (w.alloc (.cells #[.string s0,.int .i64 n0,.int .i64 t0,.int .i64 k0,.string p0,.string i0,.int .i64 v0,.string x0] 59));have bl:Blk w1 w.heap.size 59 #[.string s0,.int .i64 n0,.int .i64 t0,.int .i64 k0,.string p0,.string i0,.int .i64 v0,.string x0]:=by rw[<-hw1];exact Blk.new _ _ _
 have HB1:=zA hw1;have c3:w1.cell? ⟨w.heap.size,3,none⟩=some (.int .i64 k0):=bl.cell 3;have c6:w1.cell? ⟨w.heap.size,6,none⟩=some (.int .i64 v0):=bl.cell 6;clear bl;by_cases q1:k0=1
 ·have HQ:Hid (q=1):=zh (by rw[HW.o,if_pos q1]);subst q1;clear HW;go_enter Tryz.func90,Tryz.ntmps90;go_wp2_with fail;go_ret;exact⟨Zb2 HQ.o.symm,HB1.o⟩
 have e1:(k0 == 1)=false:=by rw[Bool.eq_false_iff];intro e;exact q1 (beq_iff_eq.1 e)
 by_cases q2:k0=2
 ·have HQ:Hid (q=3):=zh (by rw[HW.o,if_neg (show ¬k0=1 by omega),if_pos q2]);subst q2;clear HW;go_enter Tryz.func90,Tryz.ntmps90;go_wp2_with fail;go_ret;exact⟨Zb2 HQ.o.symm,HB1.o⟩
 have e2:(k0 == 2)=false:=by rw[Bool.eq_false_iff];intro e;exact q2 (beq_iff_eq.1 e)
 by_cases q3:k0=3
 ·have HQ:Hid (q=5):=zh (by rw[HW.o,if_neg (show ¬k0=1 by omega),if_neg (show ¬k0=2 by omega),if_pos q3]);subst q3;clear HW;go_enter Tryz.func90,Tryz.ntmps90;go_wp2_with fail;go_ret;exact⟨Zb2 HQ.o.symm,HB1.o⟩
 have e3:(k0 == 3)=false:=by rw[Bool.eq_false_iff];intro e;exact q3 (beq_iff_eq.1 e)
 by_cases q4:k0=4
 ·have HQ:Hid (q=v0):=zh (by rw[HW.o,if_neg (show ¬k0=1 by omega),if_neg (show ¬k0=2 by omega),if_neg (show ¬k0=3 by omega),if_pos q4]);subst q4;clear HW;go_enter Tryz.func90,Tryz.ntmps90;go_wp2_with fail;go_ret;exact⟨Zb2 HQ.o.symm,HB1.o⟩
 have e4:(k0 == 4)=false:=by rw[Bool.eq_false_iff];intro e;exact q4 (beq_iff_eq.1 e)
 have HQ:Hid (q=0):=zh (by rw[HW.o,if_neg q1,if_neg q2,if_neg q3,if_neg q4]);clear HW q1 q2 q3 q4;go_enter Tryz.func90,Tryz.ntmps90;go_wp2_with fail;go_ret;exact⟨Zb2 HQ.o.symm,HB1.o⟩
theorem Zrc {w w':World}{b:Bs}{rs:List Rw}(h:MapsIn w b rs)(hnd:b.l.Nodup)(k:Kept (fun q=>q=b.db) w w')(x:Ev)(ts:List ByteArray)(hk:x.kind=2\/x.kind=3)(hm:Is2 okBool w' b.db (rs.length+1) (upd2 (setF (doneB rs)) x.person x.item (.bool true))):MapsMid w' b (rs++[⟨x,ts⟩]) rs/\Kept (NB b) w w':=by
 have osb:¬(x.kind=0):=by omega
 have ohb:¬(x.kind=5\/x.kind=6):=by omega
 have ofb:¬(x.kind=7\/x.kind=8):=by omega
 have omb:¬(x.kind=9\/x.kind=10):=by omega
 have hne:=hnd;unfold Bs.l at hne;simp only[List.nodup_cons,List.mem_cons,List.not_mem_nil,or_false,not_or,List.nodup_nil,and_true,not_false_eq_true]at hne;obtain⟨⟨a1,a2,a3,a4,a5,a6,a7⟩,⟨b1,b2,b3,b4,b5,b6⟩,⟨c1,c2,c3,c4,c5⟩,⟨d1,d2,d3,d4⟩,⟨e1,e2,e3⟩,⟨f1,f2⟩,g1⟩:=hne;refine⟨Zfx h k ⟨x,ts⟩ (Or.inr (hm.congr (fun a b=>(Zr1 rs x ts hk a b).symm))) (Or.inl ⟨(Ne.symm b1),osb⟩) (Or.inl ⟨(Ne.symm b2),ohb⟩) (Or.inl ⟨(Ne.symm b3),ofb⟩) (Or.inl ⟨(Ne.symm b4),omb⟩) (Ne.symm b5) (Ne.symm b6),k.mono (fun i _ h=>by rw[h];exact⟨by simp[Bs.l],(Ne.symm a1)⟩)⟩
theorem Zto {w w':World}{b:Bs}{rs:List Rw}(h:MapsIn w b rs)(hnd:b.l.Nodup)(k:Kept (fun q=>q=b.sb) w w')(x:Ev)(ts:List ByteArray)(hk:x.kind=0)(hm:Is2 okInt w' b.sb (rs.length+1) (upd2 (cntF (shownN rs)) x.person x.item (.int .i64 ((shownN rs x.person x.item:Int)+1)))):MapsMid w' b (rs++[⟨x,ts⟩]) rs/\Kept (NB b) w w':=by
 have odb:¬(x.kind=2\/x.kind=3):=by omega
 have ohb:¬(x.kind=5\/x.kind=6):=by omega
 have ofb:¬(x.kind=7\/x.kind=8):=by omega
 have omb:¬(x.kind=9\/x.kind=10):=by omega
 have hne:=hnd;unfold Bs.l at hne;simp only[List.nodup_cons,List.mem_cons,List.not_mem_nil,or_false,not_or,List.nodup_nil,and_true,not_false_eq_true]at hne;obtain⟨⟨a1,a2,a3,a4,a5,a6,a7⟩,⟨b1,b2,b3,b4,b5,b6⟩,⟨c1,c2,c3,c4,c5⟩,⟨d1,d2,d3,d4⟩,⟨e1,e2,e3⟩,⟨f1,f2⟩,g1⟩:=hne;refine⟨Zfx h k ⟨x,ts⟩ (Or.inl ⟨b1,odb⟩) (Or.inr (hm.congr (fun a b=>(Zo3 rs x ts hk a b).symm))) (Or.inl ⟨(Ne.symm c1),ohb⟩) (Or.inl ⟨(Ne.symm c2),ofb⟩) (Or.inl ⟨(Ne.symm c3),omb⟩) (Ne.symm c4) (Ne.symm c5),k.mono (fun i _ h=>by rw[h];exact⟨by simp[Bs.l],(Ne.symm a2)⟩)⟩
theorem Zrd {w w':World}{b:Bs}{rs:List Rw}(h:MapsIn w b rs)(hnd:b.l.Nodup)(k:Kept (fun q=>q=b.hb) w w')(x:Ev)(ts:List ByteArray)(hk:x.kind=5\/x.kind=6)(hm:Is2 okBool w' b.hb (rs.length+1) (upd2 (boolF (hidO rs)) x.person x.item (.bool (decide (x.kind=5))))):MapsMid w' b (rs++[⟨x,ts⟩]) rs/\Kept (NB b) w w':=by
 have odb:¬(x.kind=2\/x.kind=3):=by omega
 have osb:¬(x.kind=0):=by omega
 have ofb:¬(x.kind=7\/x.kind=8):=by omega
 have omb:¬(x.kind=9\/x.kind=10):=by omega
 have hne:=hnd;unfold Bs.l at hne;simp only[List.nodup_cons,List.mem_cons,List.not_mem_nil,or_false,not_or,List.nodup_nil,and_true,not_false_eq_true]at hne;obtain⟨⟨a1,a2,a3,a4,a5,a6,a7⟩,⟨b1,b2,b3,b4,b5,b6⟩,⟨c1,c2,c3,c4,c5⟩,⟨d1,d2,d3,d4⟩,⟨e1,e2,e3⟩,⟨f1,f2⟩,g1⟩:=hne;refine⟨Zfx h k ⟨x,ts⟩ (Or.inl ⟨b2,odb⟩) (Or.inl ⟨c1,osb⟩) (Or.inr (hm.congr (fun a b=>(Ztk rs x ts hk a b).symm))) (Or.inl ⟨(Ne.symm d1),ofb⟩) (Or.inl ⟨(Ne.symm d2),omb⟩) (Ne.symm d3) (Ne.symm d4),k.mono (fun i _ h=>by rw[h];exact⟨by simp[Bs.l],(Ne.symm a3)⟩)⟩
theorem Zre {w w':World}{b:Bs}{rs:List Rw}(h:MapsIn w b rs)(hnd:b.l.Nodup)(k:Kept (fun q=>q=b.fb) w w')(x:Ev)(ts:List ByteArray)(hk:x.kind=7\/x.kind=8)(hm:Is2 okBool w' b.fb (rs.length+1) (upd2 (boolF (folO rs)) x.person x.text (.bool (decide (x.kind=7))))):MapsMid w' b (rs++[⟨x,ts⟩]) rs/\Kept (NB b) w w':=by
 have odb:¬(x.kind=2\/x.kind=3):=by omega
 have osb:¬(x.kind=0):=by omega
 have ohb:¬(x.kind=5\/x.kind=6):=by omega
 have omb:¬(x.kind=9\/x.kind=10):=by omega
 have hne:=hnd;unfold Bs.l at hne;simp only[List.nodup_cons,List.mem_cons,List.not_mem_nil,or_false,not_or,List.nodup_nil,and_true,not_false_eq_true]at hne;obtain⟨⟨a1,a2,a3,a4,a5,a6,a7⟩,⟨b1,b2,b3,b4,b5,b6⟩,⟨c1,c2,c3,c4,c5⟩,⟨d1,d2,d3,d4⟩,⟨e1,e2,e3⟩,⟨f1,f2⟩,g1⟩:=hne;refine⟨Zfx h k ⟨x,ts⟩ (Or.inl ⟨b3,odb⟩) (Or.inl ⟨c2,osb⟩) (Or.inl ⟨d1,ohb⟩) (Or.inr (hm.congr (fun a b=>(Ztl rs x ts hk a b).symm))) (Or.inl ⟨(Ne.symm e1),omb⟩) (Ne.symm e2) (Ne.symm e3),k.mono (fun i _ h=>by rw[h];exact⟨by simp[Bs.l],(Ne.symm a4)⟩)⟩
theorem Zrf {w w':World}{b:Bs}{rs:List Rw}(h:MapsIn w b rs)(hnd:b.l.Nodup)(k:Kept (fun q=>q=b.mb) w w')(x:Ev)(ts:List ByteArray)(hk:x.kind=9\/x.kind=10)(hm:Is2 okBool w' b.mb (rs.length+1) (upd2 (boolF (mutO rs)) x.person x.text (.bool (decide (x.kind=9))))):MapsMid w' b (rs++[⟨x,ts⟩]) rs/\Kept (NB b) w w':=by
 have odb:¬(x.kind=2\/x.kind=3):=by omega
 have osb:¬(x.kind=0):=by omega
 have ohb:¬(x.kind=5\/x.kind=6):=by omega
 have ofb:¬(x.kind=7\/x.kind=8):=by omega
 have hne:=hnd;unfold Bs.l at hne;simp only[List.nodup_cons,List.mem_cons,List.not_mem_nil,or_false,not_or,List.nodup_nil,and_true,not_false_eq_true]at hne;obtain⟨⟨a1,a2,a3,a4,a5,a6,a7⟩,⟨b1,b2,b3,b4,b5,b6⟩,⟨c1,c2,c3,c4,c5⟩,⟨d1,d2,d3,d4⟩,⟨e1,e2,e3⟩,⟨f1,f2⟩,g1⟩:=hne;refine⟨Zfx h k ⟨x,ts⟩ (Or.inl ⟨b4,odb⟩) (Or.inl ⟨c3,osb⟩) (Or.inl ⟨d2,ohb⟩) (Or.inl ⟨e1,ofb⟩) (Or.inr (hm.congr (fun a b=>(Ztm rs x ts hk a b).symm))) (Ne.symm f1) (Ne.symm f2),k.mono (fun i _ h=>by rw[h];exact⟨by simp[Bs.l],(Ne.symm a5)⟩)⟩
theorem Ziy {w w':World}{b:Bs}{rs:List Rw}{r:Rw}(h:MapsMid w b (rs++[r]) rs)(hnd:b.l.Nodup)(k:Kept (fun q=>q=b.lb\/q=b.nb) w w')
  (hl:Is2 okBool w' b.lb (rs.length+1) (setF (likB (rs++[r])))) (hn:MapIs Tryz.prog 9 okInt w' b.nb (rs.length+1) (mapG (cntG (fansN (rs++[r]))))):MapsIn w' b (rs++[r])/\Kept (NB b) w w':=by
 have hne:=hnd;unfold Bs.l at hne;simp only[List.nodup_cons,List.mem_cons,List.not_mem_nil,or_false,not_or,List.nodup_nil,and_true,not_false_eq_true]at hne;obtain⟨⟨a1,a2,a3,a4,a5,a6,a7⟩,⟨b1,b2,b3,b4,b5,b6⟩,⟨c1,c2,c3,c4,c5⟩,⟨d1,d2,d3,d4⟩,⟨e1,e2,e3⟩,⟨f1,f2⟩,g1⟩:=hne;refine⟨h.end k (fun q _ _ h1 h2 h3=>h3.elim h1 h2) hnd hl hn,k.mono (fun i _ h=>?_)⟩;rcases h with rfl|rfl
 ·exact⟨by simp[Bs.l],Ne.symm a6⟩
 ·exact⟨by simp[Bs.l],Ne.symm a7⟩
theorem lb_nb {b:Bs}(hnd:b.l.Nodup):b.lb≠b.nb:=by
 have hne:=hnd;unfold Bs.l at hne;simp only[List.nodup_cons,List.mem_cons,List.not_mem_nil,or_false,not_or,List.nodup_nil,and_true,not_false_eq_true]at hne;obtain⟨⟨a1,a2,a3,a4,a5,a6,a7⟩,⟨b1,b2,b3,b4,b5,b6⟩,⟨c1,c2,c3,c4,c5⟩,⟨d1,d2,d3,d4⟩,⟨e1,e2,e3⟩,⟨f1,f2⟩,g1⟩:=hne;exact g1
end Go.Proofs.YtnpfaajhgghpgaaGreatDoor
