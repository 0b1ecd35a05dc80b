/- A part of the joined base. -/
import Derived.Test.YthdmpcnnbminlaaGreatDoorV23
import Derived.Test.YthdmpcnnbminlaaGreatDoorV14
set_option linter.unusedVariables false
set_option maxHeartbeats 8000000
set_option maxRecDepth 100000
namespace Go.Proofs.YthdmpcnnbminlaaGreatDoor
open Go.Shelf Go.RowKit Go.Maps
def EvOk (e:Ev):Prop:=mayB e=true∧EvLe 300 e
theorem EvOk.sh {e:Ev} (h:EvOk e):EvSh e:=by
 obtain⟨_,h1,h2,h3,h4⟩:=h
 exact⟨by omega,by omega,by omega,by omega⟩
def CnS (W:World) (wb i eb:Nat) (u:Value) (e:Ev):Prop:=World.cell? W ⟨wb,i,none⟩=some u∧World.cell? W ⟨eb,0,none⟩=some (.string e.src)∧World.cell? W ⟨eb,1,none⟩=some (.int .i64 e.num)∧World.cell? W ⟨eb,2,none⟩=some (.int .i64 e.tick)∧World.cell? W ⟨eb,3,none⟩=some (.int .i64 e.kind)∧World.cell? W ⟨eb,4,none⟩=some (.string e.person)∧World.cell? W ⟨eb,5,none⟩=some (.string e.item)∧World.cell? W ⟨eb,6,none⟩=some (.int .i64 e.value)∧World.cell? W ⟨eb,7,none⟩=some (.string e.text)
theorem Zby {W:World} {wb i eb:Nat} {u:Value} {e:Ev} {cs:Array Value} {t:TypeId} (h1:Blk W wb t cs) (hu:cs[i]? = some u) (h2:Blk W eb 31 (evArr e)):CnS W wb i eb u e:=⟨(h1.cell i).trans hu,h2.cell 0,h2.cell 1,h2.cell 2,h2.cell 3,h2.cell 4,h2.cell 5,h2.cell 6,h2.cell 7⟩
def CountR (τ₀:Nat→Nat) (w:World) (wb base:Nat) (c:Cfg) (v:Value) (a:Bool) (last:Ev) (b:Wb) (n:Nat) (es ad:List Ev) (S:ByteArray→Bool) (l:List Ev) (e:Ending) (w':World):Prop:=e = .returned (.tuple #[])∧∃τ,WdG w' wb base c v a last b τ (n+8) es ad S (thgs l) (rowsW l)∧Kept (fun q=>τ₀ q≠0) w w'∧∀q,q<w.heap.size→τ q=τ₀ q
theorem Zia {es:List Ev} {e:Ev} (h:¬e.kind<11):rowsW (es++[e])=rowsW es:=by
 rw[Zb9]
 unfold rwStep
 rw[if_neg h]
theorem Zib {es:List Ev} {e:Ev} (h:isCat e=false):thgs (es++[e])=thgs es:=by rw[Zfa,h];rfl
theorem Znh {es:List Ev} {e:Ev} (h:isCat e=true):thgs (es++[e])=thgs es++[e]:=by rw[Zfa,if_pos h]
theorem Zni (w:World) (wb base:Nat) (c:Cfg) (v:Value) (a:Bool) (last:Ev) (b:Wb) (τ:Nat→Nat) (n:Nat) (es' ad:List Ev) (S:ByteArray→Bool) (es:List Ev) (e:Ev) (h:WdG w wb base c v a last b τ n es' ad S (thgs es) (rowsW es)) (hnx:NextE es e) (hok:EvOk e) (hlen:es.length≤10000) (hg:GlobAt w) (hgb:2<base) (hc:isCat e=true) :
  Calls Tryz.prog 106 #[.pointer (some ⟨wb,0,none⟩),evA e] w (CountR τ w wb base c v a last b n es' ad S (es++[e])):=by
 have hk:e.kind=11∨e.kind=12∨e.kind=13:=of_decide_eq_true hc
 obtain⟨w1,hw1⟩:∃w1,w.alloc (.cells (evArr e) 31)=w1:=⟨_,rfl⟩
 have HE1:Hid (Blk w1 w.heap.size 31 (evArr e)):=zh (by rw[←hw1];exact Blk.new _ _ _)
 have HB1:Hid (Below w.heap.size w w1):=zh (by rw[←hw1];exact (Below.refl _ _).alloc (zr _) _)
 have HI1:Hid (WdG w1 wb base c v a last b τ n es' ad S (thgs es) (rowsW es)):=zh (h.below HB1.o)
 have HBL:=zh h.base_le
 obtain⟨F,hF,hFt⟩:=HI1.o.cat
 have HF:=zh hF
 have HFT:=zh hFt
 have htl:=Zdo es
 have HAP:=zh (Ct.apply_any b.ct F (thgs es) e w1.drew (hF.kept ((Kept.refl (fun _=>False) w1).drew) (fun _ _ h=>h)) hok.sh (hg.keep HB1.o (zr _)).drew (by omega) (fun i hi hf=>by have:=(HI1.o.low i (by rw[hFt i hf];omega)).1;omega))
 have HTK:Hid (Ct.takesB (thgs es) e=true):=zh (Zmp hnx hok.1 hc)
 have HTH:Hid (thgs (es++[e])=thgs es++[e]):=zh (Znh hc)
 have HRW:Hid (rowsW (es++[e])=rowsW es):=zh (Zia (by omega))
 have e3:w1.cell? ⟨w.heap.size,3,none⟩=some (.int .i64 e.kind):=HE1.o.cell 3
 have HS:Hid (CnS w1.drew wb 18 w.heap.size (.pointer (some ⟨b.ct,0,none⟩)) e):=zh (Zby HI1.o.blk.drew rfl HE1.o.drew)
 clear h hF hFt hnx hok hlen hg hgb hc htl
 unfold evA at HAP ⊢
 unfold evArr at hw1
 rcases hk with hk|hk|hk
 ·have z11:(e.kind == 11)=true:=by rw[hk];rfl
  have z12:(e.kind == 12)=false:=by rw[hk];rfl
  have z13:(e.kind == 13)=false:=by rw[hk];rfl
  clear hk
  go_enter Tryz.func106,Tryz.ntmps106
  go_wp2_with fail
  refine Zaq (fun W=>CnS W wb 18 w.heap.size (.pointer (some ⟨b.ct,0,none⟩)) e) [(0,1),(1,1),(2,1),(3,1),(4,1),(5,3)] (by kernel_rfl) (by kernel_rfl) HS.o ?_
  simp only[planNL,List.getElem?_cons_zero,List.getElem?_cons_succ]
  repeat (first|(refine Zan _ (by rfl) (fun W hW=>by (obtain⟨x8,x0,x1,x2,x3,x4,x5,x6,x7⟩:=hW;go_simp;try with_reducible rfl)) ?_;simp only[Act.put,xq1,xq2,xq3])|(refine planN_off (by rfl) ?_;simp only[Act.put,xq1,xq2,xq3])|(refine planN_on0 _ (by rfl) (fun W hW=>by (go_simp;try with_reducible rfl)) ?_;simp only[Act.put,xq1,xq2,xq3]))
  refine Zai ?_
  go_wp2_with fail
  refine HAP.o.mono ?_
  rintro e' w2 ⟨rfl,F',h1,h2,h3,h4⟩
  have K1:=zh h1
  have K3:=zh h3
  have K4:=zh h4
  clear h1 h2 h3 h4 e3 hw1 HAP
  go_wp2_with fail
  refine Zaj ?_
  go_wp2_with fail
  (try simp only[Exit.inBlock,Exit.then]);refine bodyPost_ret (results_none rfl _ _ _) rfl ?_
  have hT:Ct.aftP (thgs es) e=thgs (es++[e]):=by unfold Ct.aftP;rw[HTK.o,if_pos rfl,HTH.o]
  have k4:Kept F w1 w2:=((Kept.refl F w1).drew).trans K4.o
  refine⟨rfl,_,(HRW.o ▸ (HI1.o.new4 HFT.o HF.o.lt (by rw[←hT];exact K1.o) K3.o k4)).mono (by omega),(below_kept HB1.o (zr _)).trans (k4.mono (fun i _ hi=>by rw[HFT.o i hi];omega)),fun q hq=>Zat (Nat.lt_trans hq HE1.o.lt)⟩
 ·have z11:(e.kind == 11)=false:=by rw[hk];rfl
  have z12:(e.kind == 12)=true:=by rw[hk];rfl
  have z13:(e.kind == 13)=false:=by rw[hk];rfl
  clear hk
  go_enter Tryz.func106,Tryz.ntmps106
  go_wp2_with fail
  refine Zaq (fun W=>CnS W wb 18 w.heap.size (.pointer (some ⟨b.ct,0,none⟩)) e) [(0,1),(1,1),(2,1),(3,1),(4,1),(5,3)] (by kernel_rfl) (by kernel_rfl) HS.o ?_
  simp only[planNL,List.getElem?_cons_zero,List.getElem?_cons_succ]
  repeat (first|(refine Zan _ (by rfl) (fun W hW=>by (obtain⟨x8,x0,x1,x2,x3,x4,x5,x6,x7⟩:=hW;go_simp;try with_reducible rfl)) ?_;simp only[Act.put,xq1,xq2,xq3])|(refine planN_off (by rfl) ?_;simp only[Act.put,xq1,xq2,xq3])|(refine planN_on0 _ (by rfl) (fun W hW=>by (go_simp;try with_reducible rfl)) ?_;simp only[Act.put,xq1,xq2,xq3]))
  refine Zai ?_
  go_wp2_with fail
  refine HAP.o.mono ?_
  rintro e' w2 ⟨rfl,F',h1,h2,h3,h4⟩
  have K1:=zh h1
  have K3:=zh h3
  have K4:=zh h4
  clear h1 h2 h3 h4 e3 hw1 HAP
  go_wp2_with fail
  refine Zaj ?_
  go_wp2_with fail
  (try simp only[Exit.inBlock,Exit.then]);refine bodyPost_ret (results_none rfl _ _ _) rfl ?_
  have hT:Ct.aftP (thgs es) e=thgs (es++[e]):=by unfold Ct.aftP;rw[HTK.o,if_pos rfl,HTH.o]
  have k4:Kept F w1 w2:=((Kept.refl F w1).drew).trans K4.o
  refine⟨rfl,_,(HRW.o ▸ (HI1.o.new4 HFT.o HF.o.lt (by rw[←hT];exact K1.o) K3.o k4)).mono (by omega),(below_kept HB1.o (zr _)).trans (k4.mono (fun i _ hi=>by rw[HFT.o i hi];omega)),fun q hq=>Zat (Nat.lt_trans hq HE1.o.lt)⟩
 ·have z11:(e.kind == 11)=false:=by rw[hk];rfl
  have z12:(e.kind == 12)=false:=by rw[hk];rfl
  have z13:(e.kind == 13)=true:=by rw[hk];rfl
  clear hk
  go_enter Tryz.func106,Tryz.ntmps106
  go_wp2_with fail
  refine Zaq (fun W=>CnS W wb 18 w.heap.size (.pointer (some ⟨b.ct,0,none⟩)) e) [(0,1),(1,1),(2,1),(3,1),(4,1),(5,3)] (by kernel_rfl) (by kernel_rfl) HS.o ?_
  simp only[planNL,List.getElem?_cons_zero,List.getElem?_cons_succ]
  repeat (first|(refine Zan _ (by rfl) (fun W hW=>by (obtain⟨x8,x0,x1,x2,x3,x4,x5,x6,x7⟩:=hW;go_simp;try with_reducible rfl)) ?_;simp only[Act.put,xq1,xq2,xq3])|(refine planN_off (by rfl) ?_;simp only[Act.put,xq1,xq2,xq3])|(refine planN_on0 _ (by rfl) (fun W hW=>by (go_simp;try with_reducible rfl)) ?_;simp only[Act.put,xq1,xq2,xq3]))
  refine Zai ?_
  go_wp2_with fail
  refine HAP.o.mono ?_
  rintro e' w2 ⟨rfl,F',h1,h2,h3,h4⟩
  have K1:=zh h1
  have K3:=zh h3
  have K4:=zh h4
  clear h1 h2 h3 h4 e3 hw1 HAP
  go_wp2_with fail
  refine Zaj ?_
  go_wp2_with fail
  (try simp only[Exit.inBlock,Exit.then]);refine bodyPost_ret (results_none rfl _ _ _) rfl ?_
  have hT:Ct.aftP (thgs es) e=thgs (es++[e]):=by unfold Ct.aftP;rw[HTK.o,if_pos rfl,HTH.o]
  have k4:Kept F w1 w2:=((Kept.refl F w1).drew).trans K4.o
  refine⟨rfl,_,(HRW.o ▸ (HI1.o.new4 HFT.o HF.o.lt (by rw[←hT];exact K1.o) K3.o k4)).mono (by omega),(below_kept HB1.o (zr _)).trans (k4.mono (fun i _ hi=>by rw[HFT.o i hi];omega)),fun q hq=>Zat (Nat.lt_trans hq HE1.o.lt)⟩
end Go.Proofs.YthdmpcnnbminlaaGreatDoor
namespace Go.Proofs.YthdmpcnnbminlaaGreatDoor
open Go.Shelf Go.RowKit Go.Maps
def kindsL:List ByteArray:=[⟨#[115,101,101,110]⟩,⟨#[111,112,101,110,101,100]⟩,⟨#[102,105,110,105,115,104,101,100]⟩,⟨#[98,111,117,103,104,116]⟩,⟨#[114,97,116,101,100]⟩,⟨#[104,105,100,100,101,110]⟩,⟨#[117,110,104,105,100,100,101,110]⟩,⟨#[102,111,108,108,111,119,101,100]⟩,⟨#[117,110,102,111,108,108,111,119,101,100]⟩,⟨#[109,117,116,101,100]⟩,⟨#[117,110,109,117,116,101,100]⟩,⟨#[108,105,115,116,101,100]⟩,⟨#[115,116,111,99,107,101,100]⟩,⟨#[100,101,108,105,115,116,101,100]⟩,⟨#[102,111,114,103,111,116,116,101,110]⟩]
def kindS (k:Int):ByteArray:=kindsL.getD k.toNat ⟨#[]⟩
def KnAt (w:World):Prop:=1<w.heap.size∧∀(j:Nat) x,kindsL[j]? = some x→w.cell? ⟨1,j,none⟩=some (.string x)
theorem KnAt.keep {w w':World} {B:Nat} (h:KnAt w) (hb:Below B w w') (hB:w.heap.size≤B):KnAt w':=
 ⟨Nat.lt_of_lt_of_le h.1 hb.size,fun j x hx=>(hb.cell (p:=⟨_,j,none⟩) (show _<B by have:=h.1;exact Nat.lt_of_lt_of_le this hB)).trans (h.2 j x hx)⟩
def itoaB (n:Int):ByteArray:=⟨(Lib.itoa n).toArray⟩
def dotB (s:ByteArray):ByteArray:=if s=⟨#[]⟩ then ⟨#[46]⟩ else s
def fmtW (e:Ev):List ByteArray:=[e.src,itoaB e.num,itoaB e.tick,kindS e.kind,e.person,e.item,itoaB e.value,e.text]
def fmtJ (e:Ev):ByteArray:=⟨(Lib.join (((fmtW e).map dotB).map (·.data.toList)) [32]).toArray⟩
def fmtB (e:Ev):ByteArray:=if mayB e then fmtJ e else ⟨#[]⟩
def midD (L:List ByteArray) (k:Nat):List ByteArray:=(L.take k).map dotB++L.drop k
theorem Znj (L:List ByteArray):midD L 0=L:=by unfold midD;simp
theorem Zp3 (L:List ByteArray):midD L L.length=L.map dotB:=by unfold midD;simp
theorem Znk {L:List ByteArray} {k:Nat} {x:ByteArray} (h:L[k]? = some x):(midD L k)[k]? = some x:=by
 have hk:=(List.getElem?_eq_some_iff.1 h).1
 unfold midD
 rw[List.getElem?_append_right (by simp;omega)]
 simp[Nat.min_eq_left (Nat.le_of_lt hk),h]
theorem Zko {L:List ByteArray} {k:Nat} {x:ByteArray} (h:L[k]? = some x):(midD L k).set k (dotB x)=midD L (k+1):=by
 have hk:=(List.getElem?_eq_some_iff.1 h).1
 unfold midD
 rw[List.set_append_right _ _ (by simp;omega)]
 have h1:k - ((L.take k).map dotB).length=0:=by simp;omega
 rw[h1,Zbd h,List.map_append,List.append_assoc]
 congr 1
 rw[List.drop_eq_getElem_cons hk]
 have:L[k]=x:=(List.getElem?_eq_some_iff.1 h).2
 rw[this]
 rfl
theorem Znl {L:List ByteArray} {k:Nat} {x:ByteArray} (h:L[k]? = some x) (hx:x≠⟨#[]⟩):midD L k=midD L (k+1):=by
 rw[←Zko h]
 have hd:dotB x=x:=by unfold dotB;rw[if_neg hx]
 rw[hd]
 refine List.ext_getElem? (fun i=>?_)
 rw[List.getElem?_set]
 split
 ·rename_i e
  subst e
  split
  ·exact Znk h
  ·rename_i hn
   rw[List.getElem?_eq_none (by omega)]
 ·rfl
theorem Zp4 (m:Nat) (sep:List UInt8):∀l:List (List UInt8),(∀x∈l,x.length≤m)→(Lib.join l sep).length≤l.length*(m+sep.length)
 | [],_=>Nat.zero_le _
 | x::l,h=>by
  have ht:∀l:List (List UInt8),(∀x∈l,x.length≤m)→(Lib.joinTail sep l).length≤l.length*(m+sep.length):=by
   intro l
   induction l with
   | nil=>intro _;exact Nat.zero_le _
   | cons y l ih=>
    intro h
    have h1:=h y (List.mem_cons_self ..)
    have h2:=ih (fun x hx=>h x (List.mem_cons_of_mem _ hx))
    have e:Lib.joinTail sep (y::l)=sep++y++Lib.joinTail sep l:=by simp[Lib.joinTail]
    rw[e]
    simp only[List.length_append,List.length_cons,Nat.add_mul]
    omega
  have h1:=h x (List.mem_cons_self ..)
  have h2:=ht l (fun y hy=>h y (List.mem_cons_of_mem _ hy))
  rw[Lib.join_cons,List.length_append,List.length_cons,Nat.add_mul]
  omega
theorem Zee {n:Int} (h:-9223372036854775808≤n∧n≤9223372036854775807):(itoaB n).size≤21:=by
 have:=Lib.itoa_length_le n h.1 h.2
 have e:(itoaB n).size=(Lib.itoa n).length:=by unfold itoaB;show (Lib.itoa n).toArray.size=_;simp
 omega
theorem Zlq (k:Int):(kindS k).size≤10:=by
 unfold kindS
 have h:∀x∈kindsL,x.size≤10:=by decide
 cases hk:kindsL[k.toNat]? with
 | none=>rw[List.getD_eq_getElem?_getD,hk];exact Nat.zero_le _
 | some x=>rw[List.getD_eq_getElem?_getD,hk];exact h x (List.mem_of_getElem? hk)
theorem Znm {e:Ev} (h:EvLe 300 e) (h1:InR e.num) (h2:InR e.tick) (h3:InR e.value):∀x∈fmtW e,x.size≤300:=by
 intro x hx
 unfold fmtW at hx
 simp only[List.mem_cons,List.not_mem_nil,or_false]at hx
 have q1:=Zee h1
 have q2:=Zee h2
 have q3:=Zee h3
 have q4:=Zlq e.kind
 obtain⟨a1,a2,a3,a4⟩:=h
 rcases hx with rfl|rfl|rfl|rfl|rfl|rfl|rfl|rfl <;> omega
def FmS (W:World) (eb:Nat) (e:Ev) (ks:ByteArray) (j:Nat):Prop:=World.cell? W ⟨eb,0,none⟩=some (.string e.src)∧World.cell? W ⟨eb,1,none⟩=some (.int .i64 e.num)∧World.cell? W ⟨eb,2,none⟩=some (.int .i64 e.tick)∧World.cell? W ⟨eb,3,none⟩=some (.int .i64 e.kind)∧World.cell? W ⟨eb,4,none⟩=some (.string e.person)∧World.cell? W ⟨eb,5,none⟩=some (.string e.item)∧World.cell? W ⟨eb,6,none⟩=some (.int .i64 e.value)∧World.cell? W ⟨eb,7,none⟩=some (.string e.text)∧World.cell? W ⟨1,j,none⟩=some (.string ks)
theorem Zf3 (e:Ev) (w:World) (hok:EvOk e) (hv:InR e.value) (hg:GlobAt w) (hkn:KnAt w) (htb:Ru.TabAt w) :
  Calls Tryz.prog 96 #[evA e] w fun x w'=>x = .returned (.string (fmtJ e))∧Below w.heap.size w w':=by
 obtain⟨j,hj⟩:∃j:Nat,e.kind=j:=⟨e.kind.toNat,by
  have h1:=Zdr hok.1
  have h2:0≤e.kind:=by
   have h3:=(Zas hok.1).2.2.2
   unfold kindB at h3
   by_cases hk:0≤e.kind
   ·exact hk
   ·exfalso
    repeat (first|(rw[if_neg (by omega)]at h3)|cases h3)
  omega⟩
 have hj15:j<15:=by have:=Zdr hok.1;omega
 obtain⟨ks,hks⟩:∃ks,kindsL[j]? = some ks:=⟨kindsL[j]'(by show j<15;exact hj15),List.getElem?_eq_getElem _⟩
 have HKS:Hid (kindS e.kind=ks):=zh (by unfold kindS;rw[hj,Int.toNat_natCast,List.getD_eq_getElem?_getD,hks];rfl)
 obtain⟨w1,hw1⟩:∃w1,w.alloc (.cells (evArr e) 31)=w1:=⟨_,rfl⟩
 have HE1:Hid (Blk w1 w.heap.size 31 (evArr e)):=zh (by rw[←hw1];exact Blk.new _ _ _)
 have HB1:Hid (Below w.heap.size w w1):=zh (by rw[←hw1];exact (Below.refl _ _).alloc (zr _) _)
 have HM:=zh (may_any e w1 hok.sh (hg.keep HB1.o (zr _)))
 rw[hok.1]at HM
 have HKN:=zh hkn
 have HTB:=zh htb
 have hp:=Zas hok.1
 have HN1:Hid (InR e.num):=zh (by unfold InR;omega)
 have HN2:Hid (InR e.tick):=zh (by unfold InR;omega)
 have HN3:Hid (InR e.value):=zh hv
 have HSZ:=zh (Znm hok.2 HN1.o HN2.o hv)
 have d0:w1.cell? ⟨w.heap.size,0,none⟩=some (.string e.src):=HE1.o.cell 0
 have d1:w1.cell? ⟨w.heap.size,1,none⟩=some (.int .i64 e.num):=HE1.o.cell 1
 have d2:w1.cell? ⟨w.heap.size,2,none⟩=some (.int .i64 e.tick):=HE1.o.cell 2
 have d3:w1.cell? ⟨w.heap.size,3,none⟩=some (.int .i64 e.kind):=HE1.o.cell 3
 have d4:w1.cell? ⟨w.heap.size,4,none⟩=some (.string e.person):=HE1.o.cell 4
 have d5:w1.cell? ⟨w.heap.size,5,none⟩=some (.string e.item):=HE1.o.cell 5
 have d6:w1.cell? ⟨w.heap.size,6,none⟩=some (.int .i64 e.value):=HE1.o.cell 6
 have d7:w1.cell? ⟨w.heap.size,7,none⟩=some (.string e.text):=HE1.o.cell 7
 have HKJ:=zh hj
 have HKL:=zh hks
 clear hok hv hg hkn htb hp hj hks
 unfold evA at HM ⊢
 unfold evArr at hw1
 go_enter Tryz.func96,Tryz.ntmps96
 go_wp2_with fail
 refine HM.o.mono ?_
 rintro e' w2 ⟨rfl,hb2⟩
 have HB2:Hid (Below w.heap.size w w2):=zh (HB1.o.trans (hb2.mono HB1.o.size))
 have HE2:Hid (Blk w2 w.heap.size 31 (evArr e)):=zh ((hb2.block _ HE1.o.lt).trans HE1.o)
 have HSC:Hid (∀W,Below w2.heap.size w2 W→FmS W w.heap.size e ks j):=zh (fun W hb=>by
  have h1:Blk W w.heap.size 31 (evArr e):=(hb.block _ HE2.o.lt).trans HE2.o
  exact⟨h1.cell 0,h1.cell 1,h1.cell 2,h1.cell 3,h1.cell 4,h1.cell 5,h1.cell 6,h1.cell 7,((HKN.o.keep HB2.o (zr _)).keep hb (zr _)).2 j ks HKL.o⟩)
 have hk1:(0:Int)≤e.kind:=by have:=HKJ.o;omega
 have hk2:e.kind<15:=by have:=HKJ.o;omega
 have hk3:e.kind.toNat=j:=by have:=HKJ.o;omega
 clear hb2 hw1 d0 d1 d2 d3 d4 d5 d6 d7 HM HE1 HB1
 go_upto_region 3 with fail
 refine Zar (fun W=>Below w2.heap.size w2 W) [(0,false),(1,false),(2,false),(3,false),(5,false),(6,false),(8,false),(9,false),(10,false),(11,false),(12,false),(13,false),(14,false),(15,false),(16,false),(17,false),(19,false),(20,false),(4,true),(7,true),(18,true),(21,true),(22,false)] (by kernel_rfl) (by kernel_rfl) (below_drew (Below.refl _ _)) ?_
 simp only[planL,List.getElem?_cons_zero,List.getElem?_cons_succ]
 repeat (first|(refine Zaf _ (by rfl) (fun W hW=>by (obtain⟨x0,x1,x2,x3,x4,x5,x6,x7,x8⟩:=HSC.o W hW;go_simp;try with_reducible rfl)) ?_;simp only[Act.put,xq1,xq2,xq3])|(refine Zac (by rfl) ?_;simp only[Act.put,xq1,xq2,xq3]))
 obtain⟨s1,hs1⟩:∃z,itoaB e.num=z:=⟨_,rfl⟩
 obtain⟨s2,hs2⟩:∃z,itoaB e.tick=z:=⟨_,rfl⟩
 obtain⟨s3,hs3⟩:∃z,itoaB e.value=z:=⟨_,rfl⟩
 have HI1:Hid (∀W,Below w2.heap.size w2 W→Calls Tryz.prog 134 #[.int .i64 e.num] W fun x w'=>x = .returned (.string s1)∧Below W.heap.size W w'):=zh (fun W hb=>by rw[←hs1];exact Ru.Zbx e.num HN1.o.1 HN1.o.2 W ((HTB.o.keep HB2.o).keep hb))
 have HI2:Hid (∀W,Below w2.heap.size w2 W→Calls Tryz.prog 134 #[.int .i64 e.tick] W fun x w'=>x = .returned (.string s2)∧Below W.heap.size W w'):=zh (fun W hb=>by rw[←hs2];exact Ru.Zbx e.tick HN2.o.1 HN2.o.2 W ((HTB.o.keep HB2.o).keep hb))
 have HI3:Hid (∀W,Below w2.heap.size w2 W→Calls Tryz.prog 134 #[.int .i64 e.value] W fun x w'=>x = .returned (.string s3)∧Below W.heap.size W w'):=zh (fun W hb=>by rw[←hs3];exact Ru.Zbx e.value HN3.o.1 HN3.o.2 W ((HTB.o.keep HB2.o).keep hb))
 have HLW:Hid (fmtW e = [e.src,s1,s2,ks,e.person,e.item,s3,e.text]):=zh (by unfold fmtW;rw[hs1,hs2,hs3,HKS.o])
 clear hs1 hs2 hs3
 obtain⟨wd,hwd⟩:∃z,w2.drew=z:=⟨_,rfl⟩
 have HBD:Hid (Below w2.heap.size w2 wd):=zh (by rw[←hwd];exact below_drew (Below.refl _ _))
 rw[hwd]
 clear hwd
 refine Zae ?_
 have HC:=zh (HI1.o wd HBD.o)
 go_wp2_with fail
 refine HC.o.mono ?_
 rintro e' w3 ⟨rfl,hb3⟩
 have HB3:Hid (Below w2.heap.size w2 w3):=zh (HBD.o.trans (hb3.mono HBD.o.size))
 clear hb3 HC HI1
 go_wp2_with fail
 refine⟨HB3.o,?_⟩
 refine Zae ?_
 have HC:=zh (HI2.o w3 HB3.o)
 go_wp2_with fail
 refine HC.o.mono ?_
 rintro e' w4 ⟨rfl,hb4⟩
 have HB4:Hid (Below w2.heap.size w2 w4):=zh (HB3.o.trans (hb4.mono HB3.o.size))
 clear hb4 HC HI2
 go_wp2_with fail
 refine⟨HB4.o,?_⟩
 refine Zae ?_
 have HC:=zh (HI3.o w4 HB4.o)
 go_wp2_with fail
 refine HC.o.mono ?_
 rintro e' w5 ⟨rfl,hb5⟩
 have HB5:Hid (Below w2.heap.size w2 w5):=zh (HB4.o.trans (hb5.mono HB4.o.size))
 clear hb5 HC HI3
 go_wp2_with fail
 refine⟨HB5.o,?_⟩
 refine Zae ?_
 go_wp2_with fail
 obtain⟨w6,hw6⟩:∃z,w5.alloc (.cells #[.string e.src,.string s1,.string s2,.string ks,.string e.person,.string e.item,.string s3,.string e.text] 9)=z:=⟨_,rfl⟩
 rw[hw6]
 obtain⟨L,hL⟩:∃L,[e.src,s1,s2,ks,e.person,e.item,s3,e.text]=L:=⟨_,rfl⟩
 obtain⟨g,hg⟩:∃g,w5.heap.size=g:=⟨_,rfl⟩
 have HB6:Hid (Below w2.heap.size w2 w6):=zh (by rw[←hw6];exact HB5.o.alloc HB5.o.size _)
 have HX6:Hid (Blk w6 g 9 ((midD L 0).map Value.string).toArray):=zh (by rw[Znj,←hL,←hw6,←hg];exact Blk.new _ _ _)
 have HLN:Hid (L.length=8):=zh (by rw[←hL];rfl)
 have HGZ:Hid (w2.heap.size≤g):=zh (by rw[←hg];exact HB5.o.size)
 rw[hL]at HLW
 rw[HLW.o]at HSZ
 rw[hg]
 clear hw6 hL hg
 refine⟨HB6.o,?_⟩
 repeat (first|(refine Zaf _ (by rfl) (fun W hW=>by (obtain⟨x0,x1,x2,x3,x4,x5,x6,x7,x8⟩:=HSC.o W hW;go_simp;try with_reducible rfl)) ?_;simp only[Act.put,xq1,xq2,xq3])|(refine Zac (by rfl) ?_;simp only[Act.put,xq1,xq2,xq3]))
 refine Zah ?_
 go_wp2_with fail
 go_loopw [33] (fun i wr=>∃k:Nat,k≤8∧i = .int .i64 k∧Hid (Blk wr g 9 ((midD L k).map Value.string).toArray)∧Hid (Below w2.heap.size w2 wr)) (fun i _=>8 - (intOf i).toNat)
 case atStart=>exact⟨0,Nat.zero_le _,rfl,HX6,HB6⟩
 case round=>
  clear HB6 HX6
  obtain⟨k,hk,rfl,hbk,hbw⟩:=hrel
  have hglt:=hbk.o.lt
  by_cases hlt:k<8
  ·obtain⟨x,hx⟩:∃x,L[k]? = some x:=⟨L[k]'(by rw[HLN.o];exact hlt),List.getElem?_eq_getElem _⟩
   have c0:wr.cell? ⟨g,k,none⟩=some (.string x):=by
    rw[hbk.o.cell,List.getElem?_toArray,List.getElem?_map,Znk hx]
    rfl
   have f0:wr.frozen? ⟨g,k,none⟩=false:=hbk.o.frozen k
   have hk8:(k:Int)<8:=by omega
   have hk9:(0:Int)≤(k:Int):=by omega
   have HX:=zh hx
   by_cases hxe:x=⟨#[]⟩
   ·have hb:x.toList.isEmpty=true:=by rw[Zcj];simp[hxe]
    have HS:Hid ((midD L k).set k ⟨#[46]⟩=midD L (k+1)):=zh (by rw[←Zko hx];unfold dotB;rw[if_pos hxe])
    clear hx hxe
    go_wp2_with fail
    go_roundw
    case rel=>
     refine⟨k+1,by omega,by go_num,zh ?_,zh (hbw.o.setCell (p:=⟨g,k,none⟩) HGZ.o _)⟩
     have h1:=hbk.o.set_ k (.string ⟨#[46]⟩)
     rw[←HS.o,List.map_set]
     simpa using h1
    case measure=>simp[intOf];omega
   ·have hb:x.toList.isEmpty=false:=by rw[Zcj];simp[hxe]
    have HS:Hid (midD L k=midD L (k+1)):=zh (Znl hx hxe)
    clear hx hxe
    go_wp2_with fail
    go_roundw
    case rel=>exact⟨k+1,by omega,by go_num,zh (by rw[←HS.o];exact hbk.o),hbw⟩
    case measure=>simp[intOf];omega
  ·obtain rfl:k=8:=by omega
   have HF:Hid (Blk wr g 9 ((L.map dotB).map Value.string).toArray):=zh (by
    have:=hbk.o
    rw[←HLN.o,Zp3]at this
    exact this)
   have HJ:=zh (Ru.Zpr g 0 8 (L.map dotB) ⟨#[32]⟩ wr (fun j x hx=>by
    rw[Nat.zero_add,HF.o.cell,List.getElem?_toArray,List.getElem?_map,hx]
    rfl) hglt (by rw[List.length_map,HLN.o];omega) (by rw[List.length_map,HLN.o];omega) (by
    have h1:=Zp4 301 [32] ((L.map dotB).map (·.data.toList)) (fun x hx=>by
     obtain⟨y,hy,rfl⟩:=List.mem_map.1 hx
     obtain⟨z,hz,rfl⟩:=List.mem_map.1 hy
     have h2:=HSZ.o z hz
     have h3:(dotB z).data.toList.length=(dotB z).size:=by simp
     rw[h3]
     unfold dotB
     split
     ·show (1:Nat)≤301;omega
     ·omega)
    rw[List.length_map,List.length_map,HLN.o]at h1
    exact Nat.le_trans h1 (by simp)))
   rw[List.length_map,HLN.o]at HJ
   clear hbk hlt
   go_wp2_with fail
   refine HJ.o.mono ?_
   rintro e' w9 ⟨rfl,hb9⟩
   have HB9:=zh hb9
   clear hb9 HJ
   go_wp2_with fail
   go_ret
   refine⟨?_,HB2.o.trans ((hbw.o.trans (HB9.o.mono hbw.o.size)).mono HB2.o.size)⟩
   unfold fmtJ
   rw[HLW.o,List.map_map]
   rfl
end Go.Proofs.YthdmpcnnbminlaaGreatDoor
namespace Go.Proofs.YthdmpcnnbminlaaGreatDoor
open Go.Shelf Go.RowKit Go.Maps
theorem Zlr (w:World) (wb base:Nat) (c:Cfg) (v:Value) (a:Bool) (last:Ev) (b:Wb) (τ:Nat→Nat) (n:Nat) (es' ad:List Ev) (S:ByteArray→Bool) (es:List Ev) (e:Ev) (h:WdG w wb base c v a last b τ n es' ad S (thgs es) (rowsW es)) (hk:e.kind=14) :
  Calls Tryz.prog 106 #[.pointer (some ⟨wb,0,none⟩),evA e] w (CountR τ w wb base c v a last b n es' ad S (es++[e])):=by
 obtain⟨w1,hw1⟩:∃w1,w.alloc (.cells (evArr e) 31)=w1:=⟨_,rfl⟩
 have HE1:Hid (Blk w1 w.heap.size 31 (evArr e)):=zh (by rw[←hw1];exact Blk.new _ _ _)
 have HB1:Hid (Below w.heap.size w w1):=zh (by rw[←hw1];exact (Below.refl _ _).alloc (zr _) _)
 have HI1:Hid (WdG w1 wb base c v a last b τ n es' ad S (thgs es) (rowsW es)):=zh (h.below HB1.o)
 have HTH:Hid (thgs (es++[e])=thgs es):=zh (Zib (by unfold isCat;exact decide_eq_false (by omega)))
 have HRW:Hid (rowsW (es++[e])=rowsW es):=zh (Zia (by omega))
 have e3:w1.cell? ⟨w.heap.size,3,none⟩=some (.int .i64 e.kind):=HE1.o.cell 3
 have z11:(e.kind == 11)=false:=by rw[hk];rfl
 have z12:(e.kind == 12)=false:=by rw[hk];rfl
 have z13:(e.kind == 13)=false:=by rw[hk];rfl
 have z14:(e.kind == 14)=true:=by rw[hk];rfl
 clear h hk
 unfold evA
 unfold evArr at hw1
 go_enter Tryz.func106,Tryz.ntmps106
 go_wp2_with fail
 (try simp only[Exit.inBlock,Exit.then]);refine bodyPost_ret (results_none rfl _ _ _) rfl ?_
 refine⟨rfl,τ,?_,below_kept HB1.o (zr _),fun _ _=>rfl⟩
 rw[HTH.o,HRW.o]
 exact HI1.o.mono (by omega)
def itArr (x:Ct.It):Array Value:=#[.string x.name,.string x.maker,.string x.tags,.int .i64 x.stock,.int .i64 x.price,.int .i64 x.born,.bool x.listed]
theorem Znn:(Tryz.prog.info? 36).map (·.size)=some 7:=by kernel_rfl
def AtBox (w:World) (v5:Value) (x:Ct.It) (wx:World):Prop:=∃ib,v5 = .pointer (some ⟨ib,0,none⟩)∧Blk wx ib 36 (itArr x)∧Below w.heap.size w wx
def TagBox (w:World) (v4:Value) (ts:List ByteArray) (wx:World):Prop:=∃A cc,v4 = .slice A ts.length cc∧RowIn wx wx.heap.size 1 A ts.length (ts.map .string)∧(∀ad,A=some ad→w.heap.size≤ad.block)∧Below w.heap.size w wx
theorem Zja (es:List Ev) (e:Ev):tagsOf es e=if (Ct.atP (thgs es) e.item e.tick).isSome then evTags ((⟨#[59]⟩:ByteArray)++((Ct.atP (thgs es) e.item e.tick).getD Ct.it0).tags) else []:=by
 unfold tagsOf
 cases Ct.atP (thgs es) e.item e.tick <;> rfl
theorem Zp5 {es:List Ev} (hall:∀x∈es,EvOk x) {e:Ev} (hok:EvOk e):(((⟨#[59]⟩:ByteArray)++((Ct.atP (thgs es) e.item e.tick).getD Ct.it0).tags).size≤301)∧(tagsOf es e).length≤400∧∀t∈tagsOf es e,t.size≤301:=by
 have h1:((Ct.atP (thgs es) e.item e.tick).getD Ct.it0).tags.size≤300:=by
  cases ha:Ct.atP (thgs es) e.item e.tick with
  | none=>exact Nat.zero_le _
  | some x=>exact (at_ok (m:=300) (fun y hy=>(hall y hy).1) (fun y hy=>(hall y hy).2) hok.2.2.2.1 ha).tags
 have h2:((⟨#[59]⟩:ByteArray)++((Ct.atP (thgs es) e.item e.tick).getD Ct.it0).tags).size≤301:=by
  rw[ByteArray.size_append]
  have:(⟨#[59]⟩:ByteArray).size=1:=rfl
  omega
 refine⟨h2,?_,fun t ht=>?_⟩
 ·rw[Zja]
  split
  ·unfold evTags
   split
   ·exact Nat.zero_le _
   ·have h3:=Ru.Zf2 (restP ((⟨#[59]⟩:ByteArray)++((Ct.atP (thgs es) e.item e.tick).getD Ct.it0).tags))
    have h4:=Ze5 ((⟨#[59]⟩:ByteArray)++((Ct.atP (thgs es) e.item e.tick).getD Ct.it0).tags)
    omega
  ·exact Nat.zero_le _
 ·rw[Zja]at ht
  split at ht
  ·exact Nat.le_trans (Zgf _ t ht) h2
  ·cases ht
theorem Zp6 {e:Ev} (h:mayB e=true) (h0:0<worthP e):(1≤e.item.size∧e.item.size≤24)∧(1≤e.person.size∧e.person.size≤24)∧worthP e≤5:=by
 have h1:=(Zas h).2.2.2
 have nm:∀s:ByteArray,nameB s=true→1≤s.size∧s.size≤24:=fun s hs=>by
  unfold nameB at hs
  rw[Bool.and_eq_true]at hs
  exact of_decide_eq_true hs.1
 unfold kindB at h1
 unfold worthP at h0 ⊢
 by_cases k1:e.kind=1
 ·rw[k1]at h1
  simp at h1
  rw[if_pos k1]
  exact⟨nm _ h1.2.1,nm _ h1.1,by omega⟩
 ·by_cases k2:e.kind=2
  ·rw[k2]at h1
   simp at h1
   rw[if_neg k1,if_pos k2]
   exact⟨nm _ h1.2.1,nm _ h1.1,by omega⟩
  ·by_cases k3:e.kind=3
   ·rw[k3]at h1
    simp at h1
    rw[if_neg k1,if_neg k2,if_pos k3]
    exact⟨nm _ h1.2.1,nm _ h1.1,by omega⟩
   ·by_cases k4:e.kind=4
    ·rw[k4]at h1
     simp at h1
     rw[if_neg k1,if_neg k2,if_neg k3,if_pos k4]
     exact⟨nm _ h1.2.1,nm _ h1.1,h1.2.2.2.1⟩
    ·rw[if_neg k1,if_neg k2,if_neg k3,if_neg k4]at h0
     omega
theorem WdG.new1 {w w':World} {wb base n:Nat} {c:Cfg} {v:Value} {a a':Bool} {last last':Ev} {b:Wb} {τ:Nat→Nat} {es ad:List Ev} {S:ByteArray→Bool} {th:List Ev} {rs:List Rw} (h:WdG w wb base c v a last b τ n es ad S th rs) (h':Blk w' wb 111 (wdCells c v a' last' b)) (k:Kept (fun q=>q=wb) w w'):WdG w' wb base c v a' last' b (tauM τ w.heap.size w'.heap.size 1) n es ad S th rs:=by
 have R:=h.rest (m:=1) (k.mono (fun q _ hq=>by rw[hq];exact h.tw)) (by omega) h.base_le
 exact⟨h',R.row (by omega),R.add (by omega),R.fgt (by omega),R.cat (by omega),R.crw (by omega),R.pop (by omega),R.pan (by omega),R.ses (by omega),R.tw,R.ta,R.tf,R.tr (by omega),R.low⟩
end Go.Proofs.YthdmpcnnbminlaaGreatDoor
