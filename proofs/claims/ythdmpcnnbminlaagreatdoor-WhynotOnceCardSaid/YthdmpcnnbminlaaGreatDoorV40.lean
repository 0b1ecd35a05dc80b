/- A part of the joined base. -/
import Derived.Test.YthdmpcnnbminlaaGreatDoorV39
set_option linter.unusedVariables false
set_option maxHeartbeats 8000000
set_option maxRecDepth 100000
namespace Go.Proofs.YthdmpcnnbminlaaGreatDoor
open Go.Shelf Go.RowKit Go.Maps
open Ru (Fz fzA fzX Nd holdsR RuleV ruleT Says errOf ErrAt TabAt)
section
variable {P : Program}
theorem Zel {ops:Array Oper} {rest:List Oper} {o:Oper} {a:Act} {w:World} {Q:Exit→Act→World→Prop} (hw:Region.wanted o (yielded ops a.tmps)=true) (ty:TypeId) (x:Operand) (ho:o.op = .load ty x)
  (g:Nat) (hx:a.eval x = .pointer (some ⟨g,0,none⟩)) (t:TypeId) (cs:Array Value) (fr:Nat×Nat) (d:TypeDesc) (hg:w.heap[g]? = some (.cells cs t fr))
  (hu:P.underlying ty=some d) (hd:(match d with | .struct _ | .array _ _=>true|_=>false)=true) (hi:(P.info? ty).map (·.size)=some cs.size)
  (h:wpList P ops Q rest (a.put o.dst (.agg cs)) w):wpList P ops Q (o::rest) a w:=by
 unfold wpList
 rw[if_pos hw]
 exact Or.inl (wp_load_row ty x ho g hx t cs fr d hg hu hd hi h)
end
def awC:Cfg:=⟨1,1,0,1,0,0⟩
def awG:Sg:=⟨awC,0,0,0,0,0,0,0,0,0,0,0,0,0,⟨#[]⟩,ownS,0⟩
theorem Zk9:CfgOk awC:=by constructor <;> decide
theorem Zru:SgOk awG none:=⟨Zk9,by decide,by decide,by decide,by decide,by decide,by decide,⟨_,Ru.says0⟩⟩
theorem Zot {us:List (Nat×Value)} {w:World} (h:ChsIn w us [(1,[ev1]),(2,[ev2])]):∃A1 c1 A2 c2,us = [(1,.slice A1 1 c1),(2,.slice A2 1 c2)]:=by
 obtain⟨h1,h2⟩:=h
 match us,h1 with
 | [u,v],_=>
  obtain⟨e1,A1,c1,e2,_⟩:=h2 0 u (1,[ev1]) rfl rfl
  obtain⟨e3,A2,c2,e4,_⟩:=h2 1 v (2,[ev2]) rfl rfl
  obtain⟨u1,u2⟩:=u
  obtain⟨v1,v2⟩:=v
  dsimp only at e1 e2 e3 e4
  subst e1 e2 e3 e4
  exact⟨A1,c1,A2,c2,rfl⟩
theorem awake41_any (w:World) (hg:Lb2 w):Calls Tryz.prog 39 #[] w fun e w'=>e = .returned (.bool true)∧Below w.heap.size w w':=by
 have HLB:Hid (∀W,Below w.heap.size w W→Lb2 W):=zh (fun W hb=>hg.keep hb)
 have HT:Hid (toldB pS aS 5=true):=zh (by decide)
 obtain⟨sa,hsa⟩:∃sa,sgArr awG=sa:=⟨_,rfl⟩
 have HSA:=zh hsa
 have HSI:Hid ((Tryz.prog.info? 80).map (·.size)=some sa.size):=zh (by rw[←hsa];exact Zb6)
 clear hg hsa
 go_enter Tryz.func39,Tryz.ntmps39
 go_upto_region 2 with (first
  | (refine Zad _ rfl 80 (.tmp 1) (.tmp 6) rfl 0 (sgArr awG) rfl rfl (Blk.new _ _ _) (by show 0+22≤22;omega) Zb6 (by simp[sgArr,Value.oneCell']) ?_;intro w1 hb1 hk1 hs1)
  | fail)
 (try simp only[Exit.inBlock,Exit.then])
 simp only[sgArr,putA,xq1,xq2,xq3]at hb1
 have HX1:Hid (Blk w1 w.heap.size 80 (sgArr awG)):=zh hb1
 have HB1:Hid (Below w.heap.size w w1):=zh (((Below.refl _ _).alloc (zr _) _).trans (hk1.toBelow (fun i hi=>by rw[hi];exact zr _) (by simp)))
 clear hb1 hk1 hs1
 have c0:w1.cell? ⟨w.heap.size,0,none⟩=some (.int .i64 1):=HX1.o.cell 0
 have c1:w1.cell? ⟨w.heap.size,1,none⟩=some (.int .i64 1):=HX1.o.cell 1
 have c2:w1.cell? ⟨w.heap.size,2,none⟩=some (.int .i64 0):=HX1.o.cell 2
 have c3:w1.cell? ⟨w.heap.size,3,none⟩=some (.int .i64 1):=HX1.o.cell 3
 have c4:w1.cell? ⟨w.heap.size,4,none⟩=some (.int .i64 0):=HX1.o.cell 4
 have c5:w1.cell? ⟨w.heap.size,5,none⟩=some (.int .i64 0):=HX1.o.cell 5
 rw[HSA.o]at HX1
 have hlb:=HLB.o w1 HB1.o
 have HC:=zh (wof_any awC w1 w1.heap.size none [] 0 0 Zk9 rfl ⟨rfl,Or.inl rfl⟩ (zr _) (by omega) (fun e h=>by cases h) hlb.g hlb.k hlb.t)
 unfold cfgA awC at HC
 dsimp only at HC
 clear hlb
 go_wp2_with fail
 refine HC.o.mono ?_
 rintro e w2 ⟨wb,base,E,rfl,han,hwa,_,hb2⟩
 have hE:E = []:=List.length_eq_zero_iff.1 (by have:=han.few;simpa using this)
 subst hE
 obtain⟨ct,cr,hw2⟩:=hwa.read
 have HB2:Hid (Below w1.heap.size w1 w2):=zh hb2
 have HW2:=zh hw2
 have HX2:Hid (Blk w2 w.heap.size 80 sa):=zh ((HB2.o.block _ HX1.o.lt).trans HX1.o)
 have HBW2:Hid (Below w.heap.size w w2):=zh (HB1.o.trans (HB2.o.mono HB1.o.size))
 clear han hwa hb2 HC c0 c1 c2 c3 c4 c5 hw2
 have HNE:Hid (WnE 200 []):=zh ⟨Zc9,fun e h=>(by cases h),(by simp)⟩
 have HC:=zh (whof_yes HW2.o HNE.o Zk9 (by decide) awG none Zru pS aS 5 HT.o (HLB.o w2 HBW2.o))
 unfold sgA pS aS at HC
 rw[HSA.o]at HC
 go_wp2_with (first
  | (refine wpList_load_row rfl 80 _ rfl w.heap.size rfl 80 sa (0,0) _ HX2.o Tryz.underlying80 rfl HSI.o ?_)
  | fail)
 refine HC.o.mono ?_
 rintro e w3 ⟨l,E2,A,cp,us,rfl,hch,hrow,hins,hnil,hb3⟩
 have hl:=Zjq hch
 subst hl
 obtain⟨A1,k1,A2,k2,rfl⟩:=Zot hins
 obtain⟨b,off,rfl,hbl,hcl⟩:=hrow.at (by decide)
 have HIN:=zh (And.intro hrow hins)
 have HB3:Hid (Below w2.heap.size w2 w3):=zh hb3
 have HX3:Hid (Blk w3 w.heap.size 80 sa):=zh ((HB3.o.block _ HX2.o.lt).trans HX2.o)
 have HBW3:Hid (Below w.heap.size w w3):=zh (HBW2.o.trans (HB3.o.mono HBW2.o.size))
 have c0:w3.cell? ⟨b,off,none⟩=some (.int .i64 1):=hcl 0 _ rfl
 have c1:w3.cell? ⟨b,off+1,none⟩=some (.slice A1 1 k1):=hcl 1 _ rfl
 have c2:w3.cell? ⟨b,off+2,none⟩=some (.int .i64 2):=hcl 2 _ rfl
 have c3:w3.cell? ⟨b,off+3,none⟩=some (.slice A2 1 k2):=hcl 3 _ rfl
 have HC:=zh (cures_yes (HW2.o.below HB3.o) HNE.o Zk9 (by decide) awG none Zru pS aS 5 HT.o (HLB.o w3 HBW3.o) [(1,[ev1]),(2,[ev2])] _ (some ⟨b,off,none⟩) 2 cp rfl (by omega) HIN.o.1 HIN.o.2 (by
  intro e he
  have h:e=ev1∨e=ev2:=by simpa [evsC] using he
  rcases h with rfl|rfl
  ·exact⟨by kernel_rfl,by decide,by decide,by decide,by decide⟩
  ·exact⟨by kernel_rfl,by decide,by decide,by decide,by decide⟩) (by
  intro x hx
  simp only[List.mem_cons,List.not_mem_nil,or_false]at hx
  rcases hx with rfl|rfl <;> simp))
 unfold sgA pS aS at HC
 rw[HSA.o]at HC
 clear hrow hins hnil hch hb3 hbl hcl
 dsimp only[List.length_cons,List.length_nil]
 go_wp2_with (first
  | (refine Zel (by rfl) 80 _ rfl w.heap.size rfl 80 sa (0,0) _ HX3.o Tryz.underlying80 rfl HSI.o ?_)
  | fail)
 refine HC.o.mono ?_
 rintro e w4 ⟨E3,han3,he,hb4⟩
 have h0:=Zmb han3
 obtain rfl:e = .returned (.bool true):=he.trans (congrArg (fun b=>Ending.returned (.bool b)) (decide_eq_true h0))
 have HB4:Hid (Below w.heap.size w w4):=zh (HBW3.o.trans (hb4.mono HBW3.o.size))
 clear han3 hb4 h0 he
 go_wp2_with fail
 go_ret
 exact⟨rfl,HB4.o⟩
end Go.Proofs.YthdmpcnnbminlaaGreatDoor
