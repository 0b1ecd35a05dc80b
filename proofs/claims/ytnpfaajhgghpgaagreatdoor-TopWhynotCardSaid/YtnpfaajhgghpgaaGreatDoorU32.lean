/- A part of the joined base. -/
import Derived.Test.YtnpfaajhgghpgaaGreatDoorU31
set_option linter.unusedVariables false
set_option maxHeartbeats 8000000
set_option maxRecDepth 100000
namespace Go.Proofs.YtnpfaajhgghpgaaGreatDoor
open Ct (It St it0 st0 atP takesB catB stepSt rowOf uptoP ofN rowStep)
open Ru (Fz fzX Nd holdsR)
def evsC (l:List (Nat×List Ev)):List Ev:=l.flatMap (·.2)
theorem Zij (y:Nat)(cs:List Ev)(l:List (Nat×List Ev)):evsC ((y,cs)::l)=cs++evsC l:=by unfold evsC;rw[List.flatMap_cons]
theorem OnTop.nil (es:List Ev):OnTop es []:=⟨List.Pairwise.nil,fun _ _ _ h=>(by cases h),fun _ h=>(by cases h),fun _ h=>(by cases h)⟩
theorem OnTop.app {es cs ds E:List Ev}(h:OnTop es cs)(m1:∀e,e∈E↔e∈es\/e∈cs)(h2:OnTop E ds):OnTop es (cs++ds):=by
 refine⟨List.pairwise_append.2 ⟨h.ids,h2.ids,fun a ha b hb=>h2.new a ((m1 a).2 (Or.inr ha)) b hb⟩,fun e he c hcm=>?_,fun c hcm=>?_,fun c hcm=>?_⟩
 ·rcases List.mem_append.1 hcm with h4|h4
  ·exact h.new e he c h4
  ·exact h2.new e ((m1 e).2 (Or.inl he)) c h4
 ·rcases List.mem_append.1 hcm with h4|h4
  ·exact h.kind c h4
  ·exact h2.kind c h4
 ·rcases List.mem_append.1 hcm with h4|h4
  ·exact h.here c h4
  ·rintro ⟨f,hf,hk,hp⟩;exact h2.here c h4 ⟨f,(m1 f).2 (Or.inl hf),hk,hp⟩
theorem Zod {fm:Ev->ByteArray}{es E:List Ev}(hc:Closed es)(hE:AnewIs fm es E):E=es:=by
 have h:=Zie (fm:=fm) (cs:=[]) hc (OnTop.nil es) (by rw[List.append_nil];exact hE) (by rw[List.append_nil];exact hc.sorted);rw[h,List.append_nil]
theorem Zqx {m:Nat}{es:List Ev}(hm:∀e∈es,mayB e=true)(hz:∀e∈es,e.text.size<=m){n:ByteArray}{t:Int}{x:It}(hx:atP (thgs es) n t=some x):(x.maker=⟨#[]⟩/\x.tags=⟨#[]⟩/\x.listed=false)\/∃s,listB s=true/\headP s=x.maker/\restP s=x.tags/\s.size<=m:=by
 refine Zng (Q:=fun x=>(x.maker=⟨#[]⟩/\x.tags=⟨#[]⟩/\x.listed=false)\/∃s,listB s=true/\headP s=x.maker/\restP s=x.tags/\s.size<=m) (Or.inl ⟨rfl,rfl,rfl⟩) (fun e he _ s hb hq=>?_) (fun e he=>(Zas (hm e (Zax.1 he).1)).2.2.1.1) hx;unfold stepSt;split
 ·rename_i hk
  exact Or.inr ⟨e.text,Zk2 (hm e (Zax.1 he).1) hk,rfl,rfl,hz e (Zax.1 he).1⟩
 ·split
  ·exact hq
  ·rcases hq with ⟨h1,h2,_⟩|hq
   ·exact Or.inl ⟨h1,h2,rfl⟩
   ·exact Or.inr hq
theorem Zjj {es:List Ev}{y:Nat}{p i:ByteArray}{now crowd:Int}(hok:∀e∈es,EvOk e)(hp:nameB p=true)(hi:nameB i=true)(hn:0<=now/\now<=1099511627776)(hl:es.length<=100000):∀c∈cureP es y p i now crowd,EvOk c:=by
 intro c hc;have hm:∀e∈es,mayB e=true:=fun e he=>(hok e he).1;refine⟨Zqw hm hp hi hn hl (fun e he=>by obtain⟨_,h1,h2,h3,h4⟩:=hok e he;exact⟨by omega,by omega,by omega,by omega⟩) c hc,?_⟩;obtain⟨c',h1,n,h2,h3,rfl⟩:=Zbl hc;have hpz:p.size<=24:=Zay hp;have hiz:i.size<=24:=Zay hi;have hzz:zzS.size=24:=by decide
 have h0s:(⟨#[]⟩:ByteArray).size=0:=rfl;unfold cureL at h1;split at h1
 ·obtain rfl:=List.mem_singleton.1 h1;obtain⟨k1,k2,k3,k4⟩:=Zdz es i now;refine⟨by show zzS.size<=300;omega,by show (listE es i now).person.size<=300;rw[k4];omega,by show (listE es i now).item.size<=300;rw[k3];omega,?_⟩;show (listE es i now).text.size<=300;unfold listE;split
  ·show noneT.size<=300
   decide
  ·rename_i hne
   show (mkrP es i now++⟨#[59]⟩++((atP (thgs es) i now).getD it0).tags).size<=300;cases ha:atP (thgs es) i now with
   | none=>unfold mkrP at hne;rw[ha]at hne;exact absurd rfl hne
   | some x=>
    rcases Zqx hm (fun e he=>(hok e he).2.2.2.2) ha with ⟨h4,_⟩|⟨s,h4,h5,h6,h8⟩
    ·unfold mkrP at hne;rw[ha]at hne;exact absurd h4 hne
    ·have h7:mkrP es i now=x.maker:=by unfold mkrP;rw[ha];rfl
     rw[h7,show ((some x).getD it0)=x from rfl,<-h5,<-h6,Zk1 (Zf9 h4).1];exact h8
 split at h1
 ·obtain rfl:=List.mem_singleton.1 h1;exact⟨by show zzS.size<=300;omega,by show (0:Nat)<=300;omega,by show i.size<=300;omega,by show (0:Nat)<=300;omega⟩
 split at h1
 ·obtain⟨h4,h5,h6,h7⟩:=Zcg h1;refine⟨by show zzS.size<=300;omega,by show c'.person.size<=300;rw[h4];omega,?_,?_⟩
  ·show c'.item.size<=300;rcases h6 with ⟨_,_,h8,_⟩|⟨_,_,h8,_⟩
   ·rw[h8];omega
   ·rw[h8];omega
  ·show c'.text.size<=300;rcases h6 with ⟨_,_,_,h8⟩|⟨_,h9,_,h8⟩
   ·rw[h8];omega
   ·rw[h8];obtain⟨r,hr,hr1,hr2⟩:=Zcu h9;have hr3:=of_decide_eq_true hr1;have hmk:=Zk3 (hm _ (Zcr hr).1) hr2;rw[hr3.2]at hmk;have:=Zay hmk;omega
 split at h1
 ·obtain⟨k,rfl,h4,h5,h6⟩:=Zei h1;have:=Zay (Zji (k:=k) (by omega));exact⟨by show zzS.size<=300;omega,by show (nS k).size<=300;omega,by show i.size<=300;omega,by show (0:Nat)<=300;omega⟩
 ·cases h1
theorem Zhg {es:List Ev}{y:Nat}{p i:ByteArray}{now crowd:Int}(hc:crowd<=12):(cureP es y p i now crowd).length<=12:=by
 have h1:(cureL es y p i now crowd).length<=12:=by
  unfold cureL;split
  ·simp
  split
  ·simp
  split
  ·unfold unhideL;split <;> split <;> simp
  split
  ·unfold openL;split
   ·simp
   ·rw[List.length_map,Zd0];omega
  ·simp
 unfold cureP cured;split
 ·simp
 ·rw[Zbz];exact h1
structure WnE (n:Nat) (es:List Ev):Prop where
 closed:Closed es
 ok:∀e∈es,EvOk e
 few:es.length<=n
theorem WnE.may {n:Nat}{es:List Ev}(h:WnE n es):∀e∈es,mayB e=true:=fun e he=>(h.ok e he).1
theorem WnE.step {fm:Ev->ByteArray}{n:Nat}{es E:List Ev}{y:Nat}{p i:ByteArray}{now crowd:Int}(h:WnE n es)(hp:nameB p=true)(hi:nameB i=true)(hn:0<=now/\now<=1099511627776)(hcr:crowd<=12)(hnn:n<=100000)(hE:AnewIs fm (es++cureP es y p i now crowd) E):WnE (n+12) E:=by
 refine⟨hE.closed,fun e he=>?_,?_⟩
 ·rcases List.mem_append.1 (hE.sub he) with h1|h1
  ·exact h.ok e h1
  ·exact Zjj h.ok hp hi hn (Nat.le_trans h.few hnn) e h1
 ·have h1:=hE.few;rw[List.length_append]at h1;have h2:=Zhg (es:=es) (y:=y) (p:=p) (i:=i) (now:=now) hcr;have h3:=h.few;omega
def EvK (i:ByteArray)(now:Int)(y:Nat)(e:Ev):Prop:=(y=1/\e.kind=11)\/(y=2/\e.kind=12/\e.item=i/\e.tick=now)\/(y=3/\(e.kind=6\/e.kind=10))\/(y=5/\e.kind=1)
theorem Zoe {es:List Ev}{y:Nat}{p i:ByteArray}{now crowd:Int}{c:Ev}(hc:c∈cureP es y p i now crowd):c.src=zzS/\now<=c.tick/\EvK i now y c/\grtN es<c.num:=by
 obtain⟨c',h1,n,h2,h3,rfl⟩:=Zbl hc;refine⟨rfl,?_⟩;have hlate:=(Zhe es now).1;unfold cureL at h1;split at h1
 ·obtain rfl:=List.mem_singleton.1 h1;obtain⟨k1,k2,k3,k4⟩:=Zdz es i now;exact⟨by show now<=(listE es i now).tick;rw[k2];exact Int.le_refl _,Or.inl ⟨by assumption,k1⟩,h2⟩
 split at h1
 ·obtain rfl:=List.mem_singleton.1 h1;exact⟨Int.le_refl _,Or.inr (Or.inl ⟨by assumption,rfl,rfl,rfl⟩),h2⟩
 split at h1
 ·obtain⟨h4,h5,h6,h7⟩:=Zcg h1;refine⟨by show now<=c'.tick;rw[h5];exact hlate,Or.inr (Or.inr (Or.inl ⟨by assumption,?_⟩)),h2⟩;rcases h6 with ⟨h8,_⟩|⟨h8,_⟩
  ·exact Or.inl h8
  ·exact Or.inr h8
 split at h1
 ·obtain⟨k,rfl,h4,h5,h6⟩:=Zei h1;exact⟨hlate,Or.inr (Or.inr (Or.inr ⟨by assumption,rfl⟩)),h2⟩
 ·cases h1
theorem Zqy {es:List Ev}{p i:ByteArray}{now crowd:Int}(h:cureP es 2 p i now crowd≠[]):∃c,cureP es 2 p i now crowd = [c]:=by
 obtain⟨n,_,_,h3⟩:=Zfk (es:=es) (c:=stockE i now) (by simpa [cureP,cureL] using h);exact⟨_,h3⟩
theorem Zof {es:List Ev}{b:Int}(hb:0<=b):(∀e∈es,e.src=zzS->e.num<=b)->grtN es<=b:=by
 refine snocI (p:=fun es=>(∀e∈es,e.src=zzS->e.num<=b)->grtN es<=b) (fun _=>hb) (fun l a ih h=>?_) es;rw[Zfi];split
 ·rename_i hc
  exact h a (by simp) hc.1
 ·exact ih (fun e he=>h e (List.mem_append_left _ he))
structure ChainOk (p i:ByteArray) (now crowd span:Int) (r:Option (Option Nd)) (y0:Nat) (es:List Ev) (l:List (Nat×List Ev)) (E':List Ev):Prop where
 few:l.length+y0<=6
 rise:(l.map (·.1)).Pairwise (· < ·)
 lo:∀x∈l,y0<x.1/\x.1<=6
 top:OnTop es (evsC l)
 mem:∀e,e∈E'↔e∈es\/e∈evsC l
 end_ : WnE 300 E'
 last:(∀x∈l,x.2≠[])->whyW E' p i now crowd span r=0
 none:∀(k:Nat) x,l[k]? = some x->x.2 = []->k+1=l.length/\whyW E' p i now crowd span r≠0
 evs:∀x∈l,∀e∈x.2,EvOk e/\e.src=zzS/\now<=e.tick/\EvK i now x.1 e/\grtN es<e.num
 two:∀x∈l,x.1=2->x.2≠[]->∃c,x.2 = [c]
section
variable {fm : Ev -> ByteArray} {p i : ByteArray} {now crowd span : Int} {r : Option (Option Nd)}
theorem Zqz (hp:nameB p=true)(hi:nameB i=true)(hn:0<=now/\now<=1099511627776)(hcr:crowd<=12){es E':List Ev}{l:List (Nat×List Ev)}(h:ChainP fm p i now crowd span r es l E'):∀y0:Nat,y0<=6->(whyW es p i now crowd span r=0\/y0<whyW es p i now crowd span r)->WnE (200+12*y0) es->ChainOk p i now crowd span r y0 es l E':=by
 induction h with
 | stop h=>
  intro y0 h6 hy hw;exact⟨by simpa using h6,List.Pairwise.nil,fun x hx=>(by cases hx),OnTop.nil _,fun e=>by simp[evsC],⟨hw.closed,hw.ok,by have:=hw.few;omega⟩,fun _=>h,fun k x hx=>(by simp at hx),fun x hx=>(by cases hx),fun x hx=>(by cases hx)⟩
 | @none es y h h0 hc=>
  intro y0 h6 hy hw;have hle:y<=6:=by rw[<-h];exact Zdf _ _ _ _ _
  have hlt:y0<y:=by omega
  refine⟨by simp;omega,by simp,fun x hx=>?_,by simpa [evsC] using OnTop.nil _,fun e=>by simp[evsC],⟨hw.closed,hw.ok,by have:=hw.few;omega⟩,fun hx=>absurd rfl (hx (y,[]) (List.mem_singleton.2 rfl)),fun k x hx _=>?_,fun x hx e he=>?_,fun x hx _ he=>?_⟩
  ·obtain rfl:=List.mem_singleton.1 hx;exact⟨hlt,hle⟩
  ·have hk:=(List.getElem?_eq_some_iff.1 hx).1;simp at hk;subst hk;exact⟨rfl,by rw[h];exact h0⟩
  ·obtain rfl:=List.mem_singleton.1 hx;cases he
  ·obtain rfl:=List.mem_singleton.1 hx;exact absurd rfl he
 | @more es cs E E' l y h h0 hc hne hE ht ih=>
  intro y0 h6 hy hw;subst hc;have hle:y<=6:=by rw[<-h];exact Zdf _ _ _ _ _
  have hlt:y0<y:=by omega
  have hrise:=Ze1 hw.closed hw.may h h0 hne hE;have hstep:=hw.step hp hi hn hcr (by omega) hE;have k:=ih y hle hrise ⟨hstep.closed,hstep.ok,by have:=hstep.few;omega⟩;have ht1:=Zb0 (y:=y) (p:=p) (i:=i) (now:=now) (crowd:=crowd) hw.closed hw.may;have m1:=Zbq hw.closed ht1 hE;refine⟨by have:=k.few;simp;omega,?_,fun x hx=>?_,by rw[Zij];exact ht1.app m1 k.top,fun e=>by rw[Zij,List.mem_append,k.mem,m1,or_assoc],k.end_,fun hx=>k.last (fun x h=>hx x (List.mem_cons_of_mem _ h)),fun j x hx he=>?_,fun x hx e he=>?_,fun x hx hx2 he=>?_⟩
  ·rw[List.map_cons,List.pairwise_cons];refine⟨fun y' hy'=>?_,k.rise⟩;obtain⟨x,hx,rfl⟩:=List.mem_map.1 hy';exact (k.lo x hx).1
  ·rcases List.mem_cons.1 hx with rfl|hx
   ·exact⟨hlt,hle⟩
   ·have:=k.lo x hx;exact⟨by omega,this.2⟩
  ·cases j with
   | zero=>
    simp at hx;subst hx;exact absurd he hne
   | succ j=>
    have:=k.none j x (by simpa using hx) he;exact⟨by simp;omega,this.2⟩
  ·rcases List.mem_cons.1 hx with rfl|hx
   ·exact⟨Zjj hw.ok hp hi hn (by have:=hw.few;omega) e he,Zoe he⟩
   ·obtain⟨k1,k2,k3,k4,k5⟩:=k.evs x hx e he;have h1:=Zof (Zdx E hstep.may).1.1 (fun e he hs=>(Zdx E hstep.may).2 e ((m1 e).2 (Or.inl he)) hs);exact⟨k1,k2,k3,k4,by omega⟩
  ·rcases List.mem_cons.1 hx with rfl|hx
   ·have hx3:y=2:=hx2;subst hx3;exact Zqy he
   ·exact k.two x hx hx2 he
end
end Go.Proofs.YtnpfaajhgghpgaaGreatDoor
namespace Go.Proofs.YtnpfaajhgghpgaaGreatDoor
open Ct (It St it0 st0 atP takesB catB stepSt rowOf uptoP ofN rowStep)
open Ru (Fz fzX Nd holdsR)
theorem Zau {l:List Ev}(h:SortedE l)(g:Ev->Bool):SortedE (l.filter g):=List.Pairwise.sublist List.filter_sublist h
end Go.Proofs.YtnpfaajhgghpgaaGreatDoor
namespace Go.Proofs.YtnpfaajhgghpgaaGreatDoor
open Go.Shelf Go.RowKit Go.Maps
open Ct (It St it0 st0 atP)
open Ru (Fz fzA fzX Nd holdsR)
@[go_sem] theorem Zt5 (ats : Array TypeId) (ty : TypeId) (k k2 : IntKind) (a b : Int) : Builtin.max_ ats ty #[.int k a, .int k2 b] = pure (.int k (if b > a then b else a)) := rfl
theorem Zch {w:World}{wb ct cr:Nat}{c:Cfg}{E:List Ev}(h:WrAt w wb ct cr c E)(hlen:E.length<=1000):Calls Tryz.prog 24 #[.pointer (some ⟨wb,0,none⟩)] w fun e w'=>∃A cp,e = .returned (.slice A E.length cp)/\w'.ownsRow w.heap.size 59 8 (.slice A E.length cp) E.length (E.flatMap evC)/\Below w.heap.size w w':=by
 obtain⟨A,cp,hc,hr,hn⟩:=h.row;have HC:=zh (Zf7 w w.heap.size A E E.length cp rfl hr (zr _) hn (by omega));have hlt:=h.lt;obtain⟨n,hnn⟩:=zG (E.length);rw[hnn]at hc HC ⊢;clear h hr hn hnn;go_enter Tryz.func24,Tryz.ntmps24;go_wp2_with fail;refine HC.o.mono ?_;rintro e w1 ⟨v,rfl,ho,hb1⟩;obtain⟨A1,c1,rfl⟩:=Zbh ho;clear HC;go_wp2_with fail;go_ret;exact⟨A1,c1,rfl,ho,hb1⟩
def qA (q:Option Addr)(p i:ByteArray)(now:Int):Value:=.agg #[.pointer q,.string p,.string i,.int .i64 now]
def qArr (q:Option Addr)(p i:ByteArray)(now:Int):Array Value:=#[.pointer q,.string p,.string i,.int .i64 now]
theorem Zoh {E:List Ev}(hs:SortedE E){k:Nat}{x:Ev}(hk:E.length=k+1)(hx:E[k]? = some x)(now:Int):lateP E now=if x.tick > now then x.tick else now:=by
 have h1:=Zhe E now;have hm:x∈E:=List.mem_of_getElem? hx
 have hle:∀e∈E,e.tick<=x.tick:=fun e he=>by
  obtain⟨j,hj⟩:=List.mem_iff_getElem?.1 he;have hjl:=(List.getElem?_eq_some_iff.1 hj).1;by_cases hjk:j=k
  ·subst hjk;rw[hx]at hj;cases hj;exact Int.le_refl _
  ·have hp:=List.pairwise_iff_getElem.1 hs j k hjl (by omega) (by omega);rw[(List.getElem?_eq_some_iff.1 hj).2,(List.getElem?_eq_some_iff.1 hx).2]at hp;exact Zn5 hp
 have h2:=h1.2.1 x hm;by_cases hc:x.tick > now
 ·rw[if_pos hc];rcases h1.2.2 with h3|⟨e,he,h3⟩
  ·omega
  ·have:=hle e he;omega
 ·rw[if_neg hc];rcases h1.2.2 with h3|⟨e,he,h3⟩
  ·exact h3
  ·have:=hle e he;omega
theorem Zk8 {w:World}{wb ct cr:Nat}{c:Cfg}{E:List Ev}(h:WrAt w wb ct cr c E)(hlen:E.length<=1000)(hs:SortedE E)(q:Option Addr)(p i:ByteArray)(now:Int):Calls Tryz.prog 100 #[qA q p i now,.pointer (some ⟨wb,0,none⟩)] w fun e w'=>e = .returned (.int .i64 (lateP E now))/\Below w.heap.size w w':=by
 obtain⟨w1,hw1⟩:=zG (w.alloc (.cells (qArr q p i now) 87));have HX1:Hid (Blk w1 w.heap.size 87 (qArr q p i now)):=zB hw1;have HB1:=zA hw1;have HE:=zh (Zch (h.below HB1.o) hlen);have HS:=zh hs;unfold qA;unfold qArr at hw1;obtain⟨n,hn⟩:=zG (E.length);have HN:=zh hn;rw[hn]at HE hlen;clear h hs hn;go_enter Tryz.func100,Tryz.ntmps100;go_wp2_with fail;refine HE.o.mono ?_;rintro e w2 ⟨A2,c2,rfl,ho,hb2⟩;have HO:=zh ho;have HB2:=zT HB1 hb2;have HX2:Hid (Blk w2 w.heap.size 87 (qArr q p i now)):=zX HX1 hb2;have x3:w2.cell? ⟨w.heap.size,3,none⟩=some (.int .i64 now):=HX2.o.cell 3;clear ho hb2 HE hw1;by_cases h0:n=0
 ·subst h0;have hz:((((0:Nat):Int)) == 0)=true:=rfl;have HF:Hid (lateP E now=now):=zh (by rw[List.length_eq_zero_iff.1 HN.o];rfl);go_wp2_with fail;go_ret;exact⟨by rw[HF.o];rfl,HB2.o⟩
 ·obtain⟨m,hm⟩:∃m,n=m+1:=⟨n - 1,by omega⟩
  obtain⟨x,hx⟩:∃x,E[m]? = some x:=⟨_,List.getElem?_eq_getElem (by rw[HN.o];omega)⟩
  have HF:=zh (Zoh HS.o (by rw[HN.o,hm]) hx now);obtain⟨g,cap,hv,hg,hlt⟩:=HO.o.form (by omega);injection hv with hv1 _ hv2;subst hv1;have c2:World.cell? w2 ⟨g,m*8+2,none⟩=some (.int .i64 x.tick):=by
   have h:=HO.o.cells (g:=g) rfl (m*8+2) (.int .i64 x.tick) (Zbi evC 8 Za7 _ m 2 x hx (by omega))
   rwa [at_add,Nat.zero_add]at h
  have hz:((n:Int) == 0)=false:=by rw[Bool.eq_false_iff];intro e;have:=beq_iff_eq.1 e;omega
  have hwr:IntKind.i64.wrap ((n:Int) - 1)=(m:Int):=by rw[show (n:Int) - 1=(m:Int) by omega];exact IntWalk.i64_in _ (by omega)
  have hn8:(m:Int)<(n:Int):=by omega
  have hn9:(0:Int)<=(m:Int):=by omega
  have HSC:Hid (∀W,Below w2.heap.size w2 W->World.cell? W ⟨w.heap.size,3,none⟩=some (.int .i64 now)/\World.cell? W ⟨g,m*8+2,none⟩=some (.int .i64 x.tick)):=zh (fun W hb=>⟨(hb.cell (p:=⟨w.heap.size,3,none⟩) HX2.o.lt).trans x3,(hb.cell (p:=⟨g,m*8+2,none⟩) hlt).trans c2⟩);clear hm;clear x3 c2 hx hg hlt;go_upto_region 4 with fail;refine Zar (fun W=>Below w2.heap.size w2 W) [(0,false),(1,false),(2,false),(3,false),(4,false),(5,false),(6,false),(7,false),(8,false),(9,true),(10,false)] (by kernel_rfl) (by kernel_rfl) (below_drew (Below.refl _ _)) ?_;simp only[planL,xq4,xq5];obtain⟨wd,hwd⟩:=zG (w2.drew);have HBD:Hid (Below w.heap.size w wd):=zh (by rw[<-hwd];exact below_drew HB2.o);have HB3:=zD hwd;rw[hwd];clear hwd;by_cases hc:x.tick > now
  ·have HF2:Hid (lateP E now=x.tick):=zh (by rw[HF.o,if_pos hc])
   repeat ((first|(refine Zaf _ (by rfl) (fun W hW=>by (obtain⟨x3,c2⟩:=HSC.o W hW;go_simp;try with_reducible rfl)) ?_)|(refine Zac (by rfl) ?_));simp only[Act.put,xq1,xq2,xq3])
   refine Zae ?_;go_wp2_with fail;refine⟨HB3.o,?_⟩
   repeat ((first|(refine Zaf _ (by rfl) (fun W hW=>by (obtain⟨x3,c2⟩:=HSC.o W hW;go_simp;try with_reducible rfl)) ?_)|(refine Zac (by rfl) ?_));simp only[Act.put,xq1,xq2,xq3])
   refine Zah ?_;go_wp2_with fail;go_ret;exact⟨by rw[HF2.o];rfl,HBD.o⟩
  ·have HF2:Hid (lateP E now=now):=zh (by rw[HF.o,if_neg hc])
   repeat ((first|(refine Zaf _ (by rfl) (fun W hW=>by (obtain⟨x3,c2⟩:=HSC.o W hW;go_simp;try with_reducible rfl)) ?_)|(refine Zac (by rfl) ?_));simp only[Act.put,xq1,xq2,xq3])
   refine Zae ?_;go_wp2_with fail;refine⟨HB3.o,?_⟩
   repeat ((first|(refine Zaf _ (by rfl) (fun W hW=>by (obtain⟨x3,c2⟩:=HSC.o W hW;go_simp;try with_reducible rfl)) ?_)|(refine Zac (by rfl) ?_));simp only[Act.put,xq1,xq2,xq3])
   refine Zah ?_;go_wp2_with fail;go_ret;exact⟨by rw[HF2.o];rfl,HBD.o⟩
end Go.Proofs.YtnpfaajhgghpgaaGreatDoor
namespace Go.Proofs.YtnpfaajhgghpgaaGreatDoor
open Go.Shelf Go.RowKit Go.Maps
theorem zz_list:([122,122,122,122,122,122,122,122,122,122,122,122,122,122,122,122,122,122,122,122,122,122,122,122]:List UInt8)=zzS.toList:=by rw[Lib.toList_data];rfl
theorem Zoi {E:List Ev}{k:Nat}{x:Ev}(h:E[k]? = some x):grtN (E.take (k+1))=if x.src=zzS/\grtN (E.take k)<x.num then x.num else grtN (E.take k):=by rw[Zbd h,Zfi]
def setZ (e:Ev)(n:Int):Ev:=⟨zzS,n,e.tick,e.kind,e.person,e.item,e.value,e.text⟩
def midZ (g:Int)(L:List Ev)(j:Nat):List Ev:=numL g 0 (L.take j)++L.drop j
theorem Zoj (g:Int)(L:List Ev):midZ g L 0=L:=rfl
theorem Zq2 (g:Int)(L:List Ev):midZ g L L.length=numL g 0 L:=by
 unfold midZ;rw[List.take_length,List.drop_length,List.append_nil]
theorem Zik (g:Int):∀(l:List Ev) (k:Nat) (e:Ev),numL g k (l++[e])=numL g k l++[setZ e (g+1+(k+l.length:Nat))]
 | [],k,e=>rfl
 | a::l,k,e=>by
  have h:=Zik g l (k+1) e;show _::numL g (k+1) (l++[e])=_::(numL g (k+1) l++_);rw[h,show k+1+l.length=k+(a::l).length by simp;omega]
theorem Zjk {g:Int}{L:List Ev}{j:Nat}{e:Ev}(h:L[j]? = some e):(midZ g L j)[j]? = some e:=by
 have hl:=(List.getElem?_eq_some_iff.1 h).1;unfold midZ;rw[List.getElem?_append_right (by rw[Zbz,List.length_take];omega),Zbz,List.length_take,Nat.min_eq_left (by omega),Nat.sub_self,List.getElem?_drop,Nat.add_zero,h]
theorem Zq3 {g:Int}{L:List Ev}{j:Nat}{e:Ev}(h:L[j]? = some e):(midZ g L j).set j (setZ e (g+1+j))=midZ g L (j+1):=by
 have hl:=(List.getElem?_eq_some_iff.1 h).1;have hd:L.drop j=e::L.drop (j+1):=by rw[List.drop_eq_getElem_cons hl,(List.getElem?_eq_some_iff.1 h).2]
 unfold midZ;have hlen:(numL g 0 (L.take j)).length=j:=by rw[Zbz,List.length_take];omega
 rw[List.set_append_right _ _ (by omega),hlen,Nat.sub_self,hd,xq2,Zbd h,Zik,List.append_assoc,List.length_take,Nat.min_eq_left (by omega),Nat.zero_add]
 rfl
theorem Zok {l:List Ev}{j:Nat}{e:Ev}(h:l[j]? = some e)(s:ByteArray)(n:Int):((l.flatMap evC).set (j*8) (.string s)).set (j*8+1) (.int .i64 n)=(l.set j ⟨s,n,e.tick,e.kind,e.person,e.item,e.value,e.text⟩).flatMap evC:=by
 induction l generalizing j with
 | nil=>simp at h
 | cons a l ih=>
  cases j with
  | zero=>
   simp at h;subst h;simp[evC]
  | succ j=>
   have h':=ih (j:=j) (by simpa using h);rw[List.flatMap_cons,xq3,List.flatMap_cons,<-h'];rw[List.set_append_right _ _ (by rw[Za7];omega),List.set_append_right _ _ (by rw[Za7];omega),Za7,show (j+1)*8 - 8=j*8 by omega,show (j+1)*8+1 - 8=j*8+1 by omega]
theorem Zl7 {w:World}{wb ct cr:Nat}{c:Cfg}{E:List Ev}(h:WrAt w wb ct cr c E)(hm:∀e∈E,mayB e=true)(hlen:E.length<=1000)(base:Nat)(A:Option Addr)(cs:List Ev)(n cp:Nat)(hn:cs.length=n)(hl:w.ownsRow base 59 8 (.slice A n cp) n (cs.flatMap evC))(hB:base<=w.heap.size)(hb:n<=1000) :
  Calls Tryz.prog 63 #[.pointer (some ⟨wb,0,none⟩),.slice A n cp] w fun e w'=>∃A' c' k,e = .returned (.slice A' k c')/\(cured E cs).length=k/\w'.ownsRow base 59 8 (.slice A' k c') k ((cured E cs).flatMap evC)/\Below base w w':=by
 have HE:=zh (Zch h hlen);have HGR:=zh (Zdx E hm);have HN:=zh hn;have HO:=zh hl;obtain⟨m,hmm⟩:=zG (E.length);have HM:=zh hmm;rw[hmm]at HE hlen;clear h hm hn hl hmm;go_enter Tryz.func63,Tryz.ntmps63;go_wp2_with fail;refine HE.o.mono ?_;rintro e w1 ⟨A1,c1,rfl,ho1,hb1⟩;have HO1:=zh ho1;have HB1:Hid (Below base w w1):=zh (hb1.mono hB);have HW1:=zh hb1;have hz01:=hb1.size;clear ho1 hb1 HE;go_wp2_with fail;go_loopw [5,12] (fun gv iv wr=>∃k:Nat,k<=m/\iv = .int .i64 k/\gv = .int .i64 (grtN (E.take k))/\Hid (Below w1.heap.size w1 wr)) (fun _ iv _=>m - (intOf iv).toNat)
 case atStart=>exact⟨0,Nat.zero_le _,rfl,rfl,zh (Below.refl _ _)⟩
 case round=>
  obtain⟨k,hk,rfl,rfl,hbw⟩:=hrel;have hwz:=hbw.o.size;by_cases hlt:k<m
  ·obtain⟨e,he⟩:∃e,E[k]? = some e:=⟨E[k]'(by rw[HM.o];exact hlt),List.getElem?_eq_getElem _⟩
   obtain⟨g,o,rfl,hgB,hcl⟩:=EvsAt.at (w:=w1) (B:=w1.heap.size) (A:=A1) (l:=E) (by unfold EvsAt;rw[HM.o];exact RowIn.of_own HO1.o) (by rw[HM.o];omega);obtain⟨p0,p1,p2,p3,p4,p5,p6,p7⟩:EvAt wr g (o+k*8) e:=(hcl k e he).keep (fun j=>hbw.o.cell (p:=⟨g,j,none⟩) hgB);have hk8:(k:Int)<(m:Int):=by omega
   have hk9:(0:Int)<=(k:Int):=by omega
   obtain⟨w3,hw3⟩:=zG (wr.alloc (.cells (evArr e) 59));have HX3:Hid (Blk w3 wr.heap.size 59 (evArr e)):=zB hw3;have HB3:Hid (Below w1.heap.size w1 w3):=zh (by rw[<-hw3];exact hbw.o.alloc hwz _);have HGT:=zh (Zoi he);unfold evArr at hw3;obtain⟨q0,q1,-,-,-,-,-,-⟩:=zC8 HX3.o;clear hcl he;obtain⟨g0,hg0⟩:=zG (grtN (E.take k));rw[hg0]at HGT ⊢;by_cases hs:e.src=zzS
   ·have z1:(e.src.toList == [122,122,122,122,122,122,122,122,122,122,122,122,122,122,122,122,122,122,122,122,122,122,122,122])=true:=by rw[zz_list];exact str_t hs
    by_cases hgt:e.num > g0
    ·have HG2:Hid (grtN (E.take (k+1))=e.num):=zh (by rw[HGT.o,if_pos ⟨hs,hgt⟩]);clear hs;go_wp2_with fail;go_roundw
     case rel=>exact⟨k+1,by omega,by go_num,by rw[HG2.o],HB3⟩
     case measure=>simp[intOf];omega
    ·have HG2:Hid (grtN (E.take (k+1))=g0):=zh (by rw[HGT.o,if_neg (fun h=>hgt h.2)]);clear hs;go_wp2_with fail;go_roundw
     case rel=>exact⟨k+1,by omega,by go_num,by rw[HG2.o],HB3⟩
     case measure=>simp[intOf];omega
   ·have z1:(e.src.toList == [122,122,122,122,122,122,122,122,122,122,122,122,122,122,122,122,122,122,122,122,122,122,122,122])=false:=by rw[zz_list];exact str_f hs
    have HG2:Hid (grtN (E.take (k+1))=g0):=zh (by rw[HGT.o,if_neg (fun h=>hs h.1)]);clear hs;go_wp2_with fail;go_roundw
    case rel=>exact⟨k+1,by omega,by go_num,by rw[HG2.o],HB3⟩
    case measure=>simp[intOf];omega
  ·obtain rfl:m=k:=by omega
   rw[show E.take m=E by rw[<-HM.o,List.take_length]];obtain⟨wo,rfl⟩:=zH wr;have HWO:Hid (Below w.heap.size w wo):=zh (HW1.o.trans (hbw.o.mono hz01));have HOO:Hid (wo.ownsRow base 59 8 (.slice A n cp) n (cs.flatMap evC)):=zh (Ru.Za9 HO.o HWO.o);have HBO:Hid (Below base w wo):=zh (HWO.o.mono hB);have hg1:=HGR.o.1.1;have hg2:=HGR.o.1.2;obtain⟨g0,hg0⟩:=zG (grtN E);have HG0:=zh hg0;rw[hg0]at hg1 hg2 ⊢;have hwr:IntKind.i64.wrap ((1099511627776:Int) - g0)=1099511627776 - g0:=IntWalk.i64_in _ (by omega);by_cases hov:1099511627776 - g0<(n:Int)
   ·have HC:Hid (cured E cs = []):=zh (by unfold cured;rw[if_pos (by rw[HG0.o,HN.o];omega)]);clear hg0;go_wp2_with fail;go_ret;exact⟨none,0,0,rfl,by rw[HC.o];rfl,by rw[HC.o];exact own_nil _ _ _ _,HBO.o⟩
   ·have HC:Hid (cured E cs=numL g0 0 cs):=zh (by unfold cured;rw[if_neg (by rw[HG0.o,HN.o];omega),HG0.o]);have dov:decide (1099511627776 - g0<(n:Int))=false:=decide_eq_false hov;clear hg0;go_wp2_with fail;go_loopw [31] (fun iv wr=>∃j:Nat,j<=n/\iv = .int .i64 j/\Hid (wr.ownsRow base 59 8 (.slice A n cp) n ((midZ g0 cs j).flatMap evC))/\Hid (Below base w wr)) (fun iv _=>n - (intOf iv).toNat)
    case atStart=>exact⟨0,Nat.zero_le _,rfl,zh (by rw[Zoj];exact HOO.o),HBO⟩
    case round=>
     clear HOO HBO HWO hbw;obtain⟨j,hj,rfl,ho,hbq⟩:=hrel;by_cases hlt2:j<n
     ·obtain⟨e,he⟩:∃e,cs[j]? = some e:=⟨cs[j]'(by rw[HN.o];exact hlt2),List.getElem?_eq_getElem _⟩
      have HEJ:=zh he;obtain⟨g,cap,hv,hgb,hgl⟩:=ho.o.form (by omega);injection hv with hv1 _ hv2;subst hv1;have c0:World.cell? wr ⟨g,j*8,none⟩=some (.string e.src):=by
       have h:=ho.o.cells (g:=g) rfl (j*8) (.string e.src) (Zbi evC 8 Za7 _ j 0 e (Zjk he) (by omega))
       rwa [at_add,Nat.zero_add]at h
      have c1:World.cell? wr ⟨g,j*8+1,none⟩=some (.int .i64 e.num):=by
       have h:=ho.o.cells (g:=g) rfl (j*8+1) (.int .i64 e.num) (Zbi evC 8 Za7 _ j 1 e (Zjk he) (by omega))
       rwa [at_add,Nat.zero_add]at h
      have f0:World.frozen? wr ⟨g,j*8,none⟩=false:=ho.o.frozenAt _;have f1:World.frozen? wr ⟨g,j*8+1,none⟩=false:=ho.o.frozenAt _;have HST:=zh (ho.o.stored (j*8) (.string zzS));have HST2:=zh (HST.o.1.stored (j*8+1) (.int .i64 (g0+1+(j:Int))));have HGB:Hid (base<=g):=zh hgb;have hj8:(j:Int)<(n:Int):=by omega
      have hj9:(0:Int)<=(j:Int):=by omega
      have hw1:IntKind.i64.wrap (g0+1)=g0+1:=IntWalk.i64_in _ (by omega);have hw2:IntKind.i64.wrap (g0+1+(j:Int))=g0+1+(j:Int):=IntWalk.i64_in _ (by omega);clear he hgb hgl;go_wp2_with fail;go_roundw
      case rel=>
       refine⟨j+1,by omega,by go_num,zh ?_,zh ((hbq.o.setCell (p:=⟨g,j*8,none⟩) HGB.o _).setCell (p:=⟨g,j*8+1,none⟩) HGB.o _)⟩;have h:=HST2.o.1;rw[Zok (Zjk HEJ.o),show (⟨zzS,g0+1+(j:Int),e.tick,e.kind,e.person,e.item,e.value,e.text⟩:Ev)=setZ e (g0+1+j) from rfl,Zq3 HEJ.o]at h;exact h
      case measure=>simp[intOf];omega
     ·obtain rfl:n=j:=by omega
      go_wp2_with fail;go_ret;have hlen2:(cured E cs).length=n:=by rw[HC.o,Zbz,HN.o]
      refine⟨A,cp,n,rfl,hlen2,?_,hbq.o⟩;have h:=ho.o;rw[<-HN.o,Zq2,<-HC.o,HN.o]at h;exact h
end Go.Proofs.YtnpfaajhgghpgaaGreatDoor
