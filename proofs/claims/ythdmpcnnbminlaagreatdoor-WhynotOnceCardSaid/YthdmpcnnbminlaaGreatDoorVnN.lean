/- What the laws of layer 41 share. -/
import Derived.Test.YthdmpcnnbminlaaGreatDoorBv
namespace Go.Proofs.YthdmpcnnbminlaaGreatDoor
open Go.Shelf Go.RowKit Go.Maps
open Ru (Fz fzA fzX Nd holdsR RuleV ruleT Says errOf ErrAt TabAt)
set_option linter.unusedVariables false
section
variable {P : Program}
theorem run_loadVar_at (w:World) (g off:Nat) (ty:TypeId) (cs:Array Value) (d:TypeDesc) (hg:∀(j:Nat) v,cs[j]? = some v→w.cell? ⟨g,off+j,none⟩=some v)
  (hu:P.underlying ty=some d) (hd:(match d with | .struct _ | .array _ _=>true|_=>false)=true) (hi:(P.info? ty).map (·.size)=some cs.size) :
  (loadVar ty ⟨g,off,none⟩).run P w = .ok (.agg cs) w:=by
 have hl:(loadCells ⟨g,off,none⟩ cs.toList.length).run P w = .ok cs.toList.toArray w:=
  run_loadCells_list (P:=P) w ⟨g,off,none⟩ cs.toList (fun j v hv=>by
   rw[at_add]
   exact hg j v (by simpa using hv))
 cases hq:P.info? ty with
 | none=>simp[hq]at hi
 | some i=>
  have hs:i.size=cs.size:=by simpa [hq] using hi
  have hagg:(isAgg ty).run P w = .ok true w:=by
   unfold isAgg
   rw[Sem.run_bind,run_underlying hu w]
   cases d <;> simp_all
  simp only[Array.length_toList,Array.toArray_toList]at hl
  simp[loadVar,Sem.run_bind,hagg,sizeOf,typeInfo,hq,hs,hl]
theorem wpList_load_at {ops:Array Oper} {rest:List Oper} {o:Oper} {a:Act} {w:World} {Q:Exit→Act→World→Prop} (hgd:o.guard=none) (ty:TypeId) (x:Operand) (ho:o.op = .load ty x)
  (g off:Nat) (hx:a.eval x = .pointer (some ⟨g,off,none⟩)) (cs:Array Value) (hg:∀(j:Nat) v,cs[j]? = some v→w.cell? ⟨g,off+j,none⟩=some v) {d:TypeDesc}
  (hu:P.underlying ty=some d) (hd:(match d with | .struct _ | .array _ _=>true|_=>false)=true) (hi:(P.info? ty).map (·.size)=some cs.size)
  (h:wpList P ops Q rest (a.put o.dst (.agg cs)) w):wpList P ops Q (o::rest) a w:=by
 refine wpList_plain hgd fun K hK=>?_
 unfold Oper.wp execOp
 simp only[ho,hx,Instr.loadAt,Instr.sureAddr,Sem.run_bind,Sem.run_pure,Result.andThen_ok,run_loadVar_at w g off ty cs d hg hu hd hi]
 exact hK _ _ h
end
theorem play_info:(Tryz.prog.info? 74).map (·.size)=some 22:=by kernel_rfl
theorem sm_info:(Tryz.prog.info? 72).map (·.size)=some 18:=by kernel_rfl
theorem play_sm {w:World} {g:Nat} {A:Option Addr} {n cp:Nat} {x:Sm} {p i:ByteArray} {now:Int} (h:Blk w g 74 (plArr A n cp x p i now)) (j:Nat) (v:Value) (hv:(smArr x)[j]? = some v):w.cell? ⟨g,1+j,none⟩=some v:=by
 have hj:j<18:=by
  have h1:=(Array.getElem?_eq_some_iff.1 hv).1
  simpa [smArr] using h1
 rw[h.cell (1+j),←hv]
 have hh:j=0∨j=1∨j=2∨j=3∨j=4∨j=5∨j=6∨j=7∨j=8∨j=9∨j=10∨j=11∨j=12∨j=13∨j=14∨j=15∨j=16∨j=17:=by omega
 rcases hh with rfl|rfl|rfl|rfl|rfl|rfl|rfl|rfl|rfl|rfl|rfl|rfl|rfl|rfl|rfl|rfl|rfl|rfl <;> rfl
structure PlayIn (w:World) (A:Option Addr) (n cp:Nat) (l:List Ev) (x:Sm) (p i:ByteArray) (now:Int):Prop where
 arg:EvArg w A n cp l
 lib:Lb2 w
 sm:SmIn x
 p:p.size≤140737488355328
 i:i.size≤140737488355328
 now:InR now
theorem chain_nil {fm:Ev→ByteArray} {p i:ByteArray} {now crowd span:Int} {r:Option (Option Nd)} {es E':List Ev} {l:List (Nat×List Ev)} (h:ChainP fm p i now crowd span r es l E'):l = []↔whyW es p i now crowd span r=0:=by
 cases h with
 | stop h=>exact⟨fun _=>h,fun _=>rfl⟩
 | none h h0 hc=>exact⟨fun e=>(by cases e),fun e=>absurd (h.symm.trans e) h0⟩
 | more h h0 hc hne hE ht=>exact⟨fun e=>(by cases e),fun e=>absurd (h.symm.trans e) h0⟩
end Go.Proofs.YthdmpcnnbminlaaGreatDoor
