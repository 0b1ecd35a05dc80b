/- A part of the joined base. -/
import Derived.Test.YtnpfaajhgghpgaaGreatDoorU21
import Derived.Test.YtnpfaajhgghpgaaGreatDoorU13
set_option linter.unusedVariables false
set_option maxHeartbeats 8000000
set_option maxRecDepth 100000
namespace Go.Proofs.YtnpfaajhgghpgaaGreatDoor
open Go.Shelf Go.RowKit Go.Maps
def EvOk (e:Ev):Prop:=mayB e=true/\EvLe 300 e
theorem EvOk.sh {e:Ev}(h:EvOk e):EvSh e:=by
 obtain⟨_,h1,h2,h3,h4⟩:=h;exact⟨by omega,by omega,by omega,by omega⟩
def CnS (W:World)(wb i eb:Nat)(u:Value)(e:Ev):Prop:=World.cell? W ⟨wb,i,none⟩=some u/\World.cell? W ⟨eb,0,none⟩=some (.string e.src)/\World.cell? W ⟨eb,1,none⟩=some (.int .i64 e.num)/\World.cell? W ⟨eb,2,none⟩=some (.int .i64 e.tick)/\World.cell? W ⟨eb,3,none⟩=some (.int .i64 e.kind)/\World.cell? W ⟨eb,4,none⟩=some (.string e.person)/\World.cell? W ⟨eb,5,none⟩=some (.string e.item)/\World.cell? W ⟨eb,6,none⟩=some (.int .i64 e.value)/\World.cell? W ⟨eb,7,none⟩=some (.string e.text)
theorem Zby {W:World}{wb i eb:Nat}{u:Value}{e:Ev}{cs:Array Value}{t:TypeId}(h1:Blk W wb t cs)(hu:cs[i]? = some u)(h2:Blk W eb 59 (evArr e)):CnS W wb i eb u e:=⟨(h1.cell i).trans hu,h2.cell 0,h2.cell 1,h2.cell 2,h2.cell 3,h2.cell 4,h2.cell 5,h2.cell 6,h2.cell 7⟩
def CountR (τ₀:Nat->Nat)(w:World)(wb base:Nat)(c:Cfg)(v:Value)(a:Bool)(last:Ev)(b:Wb)(n:Nat)(es ad:List Ev)(S:ByteArray->Bool)(l:List Ev)(e:Ending)(w':World):Prop:=e = .returned (.tuple #[])/\∃τ,WdG w' wb base c v a last b τ (n+8) es ad S (thgs l) (rowsW l)/\Kept (fun q=>τ₀ q≠0) w w'/\∀q,q<w.heap.size->τ q=τ₀ q
theorem Zia {es:List Ev}{e:Ev}(h:¬e.kind<11):rowsW (es++[e])=rowsW es:=by
 rw[Zb9];unfold rwStep;rw[if_neg h]
theorem Zib {es:List Ev}{e:Ev}(h:isCat e=false):thgs (es++[e])=thgs es:=by rw[Zfa,h];rfl
theorem Znh {es:List Ev}{e:Ev}(h:isCat e=true):thgs (es++[e])=thgs es++[e]:=by rw[Zfa,if_pos h]
theorem Zni (w:World)(wb base:Nat)(c:Cfg)(v:Value)(a:Bool)(last:Ev)(b:Wb)(τ:Nat->Nat)(n:Nat)(es' ad:List Ev)(S:ByteArray->Bool)(es:List Ev)(e:Ev)(h:WdG w wb base c v a last b τ n es' ad S (thgs es) (rowsW es))(hnx:NextE es e)(hok:EvOk e)(hlen:es.length<=10000)(hg:GlobAt w)(hgb:2<base)(hc:isCat e=true) :
  Calls Tryz.prog 48 #[.pointer (some ⟨wb,0,none⟩),evA e] w (CountR τ w wb base c v a last b n es' ad S (es++[e])):=by
 have hk:e.kind=11\/e.kind=12\/e.kind=13:=of_decide_eq_true hc;obtain⟨w1,hw1⟩:=zG (w.alloc (.cells (evArr e) 59));have HE1:Hid (Blk w1 w.heap.size 59 (evArr e)):=zB hw1;have HB1:=zA hw1;have HI1:Hid (WdG w1 wb base c v a last b τ n es' ad S (thgs es) (rowsW es)):=zh (h.below HB1.o);have HBL:=zh h.base_le;obtain⟨F,hF,hFt⟩:=HI1.o.cat;have HF:=zh hF;have HFT:=zh hFt;have htl:=Zdo es;have HAP:=zh (Ct.apply_any b.ct F (thgs es) e w1.drew (hF.kept ((Kept.refl (fun _=>False) w1).drew) (fun _ _ h=>h)) hok.sh (hg.keep HB1.o (zr _)).drew (by omega) (fun i hi hf=>by have:=(HI1.o.low i (by rw[hFt i hf];omega)).1;omega));have HTK:Hid (Ct.takesB (thgs es) e=true):=zh (Zmp hnx hok.1 hc);have HTH:Hid (thgs (es++[e])=thgs es++[e]):=zh (Znh hc);have HRW:Hid (rowsW (es++[e])=rowsW es):=zh (Zia (by omega));have e3:w1.cell? ⟨w.heap.size,3,none⟩=some (.int .i64 e.kind):=HE1.o.cell 3;have HS:Hid (CnS w1.drew wb 18 w.heap.size (.pointer (some ⟨b.ct,0,none⟩)) e):=zh (Zby HI1.o.blk.drew rfl HE1.o.drew);clear h hF hFt hnx hok hlen hg hgb hc htl;unfold evA at HAP ⊢;unfold evArr at hw1;rcases hk with hk|hk|hk
 ·have z11:(e.kind == 11)=true:=by rw[hk];rfl
  have z12:(e.kind == 12)=false:=by rw[hk];rfl
  have z13:(e.kind == 13)=false:=by rw[hk];rfl
  clear hk;go_enter Tryz.func48,Tryz.ntmps48;go_wp2_with fail;refine Zaq (fun W=>CnS W wb 18 w.heap.size (.pointer (some ⟨b.ct,0,none⟩)) e) [(0,1),(1,1),(2,1),(3,1),(4,1),(5,3)] (by kernel_rfl) (by kernel_rfl) HS.o ?_;simp only[planNL,xq4,xq5]
  repeat (first|(refine Zan _ (by rfl) (fun W hW=>by (obtain⟨x8,x0,x1,x2,x3,x4,x5,x6,x7⟩:=hW;go_simp;try with_reducible rfl)) ?_;simp only[Act.put,xq1,xq2,xq3])|(refine planN_off (by rfl) ?_;simp only[Act.put,xq1,xq2,xq3])|(refine planN_on0 _ (by rfl) (fun W hW=>by (go_simp;try with_reducible rfl)) ?_;simp only[Act.put,xq1,xq2,xq3]))
  refine Zai ?_;go_wp2_with fail;refine HAP.o.mono ?_;rintro e' w2 ⟨rfl,F',h1,h2,h3,h4⟩;have K1:=zh h1;have K3:=zh h3;have K4:=zh h4;clear h1 h2 h3 h4 e3 hw1 HAP;go_wp2_with fail;refine Zaj ?_;go_wp2_with fail
  (try simp only[Exit.inBlock,Exit.then]);refine bodyPost_ret (results_none rfl _ _ _) rfl ?_
  have hT:Ct.aftP (thgs es) e=thgs (es++[e]):=by unfold Ct.aftP;rw[HTK.o,if_pos rfl,HTH.o]
  have k4:Kept F w1 w2:=((Kept.refl F w1).drew).trans K4.o;refine⟨rfl,_,(HRW.o ▸ (HI1.o.new4 HFT.o HF.o.lt (by rw[<-hT];exact K1.o) K3.o k4)).mono (by omega),(below_kept HB1.o (zr _)).trans (k4.mono (fun i _ hi=>by rw[HFT.o i hi];omega)),fun q hq=>Zat (Nat.lt_trans hq HE1.o.lt)⟩
 ·have z11:(e.kind == 11)=false:=by rw[hk];rfl
  have z12:(e.kind == 12)=true:=by rw[hk];rfl
  have z13:(e.kind == 13)=false:=by rw[hk];rfl
  clear hk;go_enter Tryz.func48,Tryz.ntmps48;go_wp2_with fail;refine Zaq (fun W=>CnS W wb 18 w.heap.size (.pointer (some ⟨b.ct,0,none⟩)) e) [(0,1),(1,1),(2,1),(3,1),(4,1),(5,3)] (by kernel_rfl) (by kernel_rfl) HS.o ?_;simp only[planNL,xq4,xq5]
  repeat (first|(refine Zan _ (by rfl) (fun W hW=>by (obtain⟨x8,x0,x1,x2,x3,x4,x5,x6,x7⟩:=hW;go_simp;try with_reducible rfl)) ?_;simp only[Act.put,xq1,xq2,xq3])|(refine planN_off (by rfl) ?_;simp only[Act.put,xq1,xq2,xq3])|(refine planN_on0 _ (by rfl) (fun W hW=>by (go_simp;try with_reducible rfl)) ?_;simp only[Act.put,xq1,xq2,xq3]))
  refine Zai ?_;go_wp2_with fail;refine HAP.o.mono ?_;rintro e' w2 ⟨rfl,F',h1,h2,h3,h4⟩;have K1:=zh h1;have K3:=zh h3;have K4:=zh h4;clear h1 h2 h3 h4 e3 hw1 HAP;go_wp2_with fail;refine Zaj ?_;go_wp2_with fail
  (try simp only[Exit.inBlock,Exit.then]);refine bodyPost_ret (results_none rfl _ _ _) rfl ?_
  have hT:Ct.aftP (thgs es) e=thgs (es++[e]):=by unfold Ct.aftP;rw[HTK.o,if_pos rfl,HTH.o]
  have k4:Kept F w1 w2:=((Kept.refl F w1).drew).trans K4.o;refine⟨rfl,_,(HRW.o ▸ (HI1.o.new4 HFT.o HF.o.lt (by rw[<-hT];exact K1.o) K3.o k4)).mono (by omega),(below_kept HB1.o (zr _)).trans (k4.mono (fun i _ hi=>by rw[HFT.o i hi];omega)),fun q hq=>Zat (Nat.lt_trans hq HE1.o.lt)⟩
 ·have z11:(e.kind == 11)=false:=by rw[hk];rfl
  have z12:(e.kind == 12)=false:=by rw[hk];rfl
  have z13:(e.kind == 13)=true:=by rw[hk];rfl
  clear hk;go_enter Tryz.func48,Tryz.ntmps48;go_wp2_with fail;refine Zaq (fun W=>CnS W wb 18 w.heap.size (.pointer (some ⟨b.ct,0,none⟩)) e) [(0,1),(1,1),(2,1),(3,1),(4,1),(5,3)] (by kernel_rfl) (by kernel_rfl) HS.o ?_;simp only[planNL,xq4,xq5]
  repeat (first|(refine Zan _ (by rfl) (fun W hW=>by (obtain⟨x8,x0,x1,x2,x3,x4,x5,x6,x7⟩:=hW;go_simp;try with_reducible rfl)) ?_;simp only[Act.put,xq1,xq2,xq3])|(refine planN_off (by rfl) ?_;simp only[Act.put,xq1,xq2,xq3])|(refine planN_on0 _ (by rfl) (fun W hW=>by (go_simp;try with_reducible rfl)) ?_;simp only[Act.put,xq1,xq2,xq3]))
  refine Zai ?_;go_wp2_with fail;refine HAP.o.mono ?_;rintro e' w2 ⟨rfl,F',h1,h2,h3,h4⟩;have K1:=zh h1;have K3:=zh h3;have K4:=zh h4;clear h1 h2 h3 h4 e3 hw1 HAP;go_wp2_with fail;refine Zaj ?_;go_wp2_with fail
  (try simp only[Exit.inBlock,Exit.then]);refine bodyPost_ret (results_none rfl _ _ _) rfl ?_
  have hT:Ct.aftP (thgs es) e=thgs (es++[e]):=by unfold Ct.aftP;rw[HTK.o,if_pos rfl,HTH.o]
  have k4:Kept F w1 w2:=((Kept.refl F w1).drew).trans K4.o;refine⟨rfl,_,(HRW.o ▸ (HI1.o.new4 HFT.o HF.o.lt (by rw[<-hT];exact K1.o) K3.o k4)).mono (by omega),(below_kept HB1.o (zr _)).trans (k4.mono (fun i _ hi=>by rw[HFT.o i hi];omega)),fun q hq=>Zat (Nat.lt_trans hq HE1.o.lt)⟩
end Go.Proofs.YtnpfaajhgghpgaaGreatDoor
namespace Go.Proofs.YtnpfaajhgghpgaaGreatDoor
open Go.Shelf Go.RowKit Go.Maps
def kindsL:List ByteArray:=[⟨#[115,101,101,110]⟩,⟨#[111,112,101,110,101,100]⟩,⟨#[102,105,110,105,115,104,101,100]⟩,⟨#[98,111,117,103,104,116]⟩,⟨#[114,97,116,101,100]⟩,⟨#[104,105,100,100,101,110]⟩,⟨#[117,110,104,105,100,100,101,110]⟩,⟨#[102,111,108,108,111,119,101,100]⟩,⟨#[117,110,102,111,108,108,111,119,101,100]⟩,⟨#[109,117,116,101,100]⟩,⟨#[117,110,109,117,116,101,100]⟩,⟨#[108,105,115,116,101,100]⟩,⟨#[115,116,111,99,107,101,100]⟩,⟨#[100,101,108,105,115,116,101,100]⟩,⟨#[102,111,114,103,111,116,116,101,110]⟩]
def kindS (k:Int):ByteArray:=kindsL.getD k.toNat ⟨#[]⟩
def KnAt (w:World):Prop:=1<w.heap.size/\∀(j:Nat) x,kindsL[j]? = some x->w.cell? ⟨1,j,none⟩=some (.string x)
theorem KnAt.keep {w w':World}{B:Nat}(h:KnAt w)(hb:Below B w w')(hB:w.heap.size<=B):KnAt w':=
 ⟨Nat.lt_of_lt_of_le h.1 hb.size,fun j x hx=>(hb.cell (p:=⟨_,j,none⟩) (show _<B by have:=h.1;exact Nat.lt_of_lt_of_le this hB)).trans (h.2 j x hx)⟩
def itoaB (n:Int):ByteArray:=⟨(Lib.itoa n).toArray⟩
def dotB (s:ByteArray):ByteArray:=if s=⟨#[]⟩ then ⟨#[46]⟩ else s
def fmtW (e:Ev):List ByteArray:=[e.src,itoaB e.num,itoaB e.tick,kindS e.kind,e.person,e.item,itoaB e.value,e.text]
def fmtJ (e:Ev):ByteArray:=⟨(Lib.join (((fmtW e).map dotB).map (·.data.toList)) [32]).toArray⟩
def fmtB (e:Ev):ByteArray:=if mayB e then fmtJ e else ⟨#[]⟩
def midD (L:List ByteArray)(k:Nat):List ByteArray:=(L.take k).map dotB++L.drop k
theorem Znj (L:List ByteArray):midD L 0=L:=by unfold midD;simp
theorem Zp3 (L:List ByteArray):midD L L.length=L.map dotB:=by unfold midD;simp
theorem Znk {L:List ByteArray}{k:Nat}{x:ByteArray}(h:L[k]? = some x):(midD L k)[k]? = some x:=by
 have hk:=(List.getElem?_eq_some_iff.1 h).1;unfold midD;rw[List.getElem?_append_right (by simp;omega)];simp[Nat.min_eq_left (Nat.le_of_lt hk),h]
theorem Zko {L:List ByteArray}{k:Nat}{x:ByteArray}(h:L[k]? = some x):(midD L k).set k (dotB x)=midD L (k+1):=by
 have hk:=(List.getElem?_eq_some_iff.1 h).1;unfold midD;rw[List.set_append_right _ _ (by simp;omega)];have h1:k - ((L.take k).map dotB).length=0:=by simp;omega
 rw[h1,Zbd h,List.map_append,List.append_assoc];congr 1;rw[List.drop_eq_getElem_cons hk];have:L[k]=x:=(List.getElem?_eq_some_iff.1 h).2;rw[this]
 rfl
theorem Znl {L:List ByteArray}{k:Nat}{x:ByteArray}(h:L[k]? = some x)(hx:x≠⟨#[]⟩):midD L k=midD L (k+1):=by
 rw[<-Zko h];have hd:dotB x=x:=by unfold dotB;rw[if_neg hx]
 rw[hd];refine List.ext_getElem? (fun i=>?_);rw[List.getElem?_set];split
 ·rename_i e
  subst e;split
  ·exact Znk h
  ·rename_i hn
   rw[List.getElem?_eq_none (by omega)]
 ·rfl
theorem Zp4 (m:Nat)(sep:List UInt8):∀l:List (List UInt8),(∀x∈l,x.length<=m)->(Lib.join l sep).length<=l.length*(m+sep.length)
 | [],_=>Nat.zero_le _
 | x::l,h=>by
  have ht:∀l:List (List UInt8),(∀x∈l,x.length<=m)->(Lib.joinTail sep l).length<=l.length*(m+sep.length):=by
   intro l
   induction l with
   | nil=>intro _;exact Nat.zero_le _
   | cons y l ih=>
    intro h;have h1:=h y (List.mem_cons_self ..);have h2:=ih (fun x hx=>h x (List.mem_cons_of_mem _ hx));have e:Lib.joinTail sep (y::l)=sep++y++Lib.joinTail sep l:=by simp[Lib.joinTail]
    rw[e];simp only[List.length_append,List.length_cons,Nat.add_mul];omega
  have h1:=h x (List.mem_cons_self ..);have h2:=ht l (fun y hy=>h y (List.mem_cons_of_mem _ hy));rw[Lib.join_cons,List.length_append,List.length_cons,Nat.add_mul];omega
theorem Zee {n:Int}(h:-9223372036854775808<=n/\n<=9223372036854775807):(itoaB n).size<=21:=by
 have:=Lib.itoa_length_le n h.1 h.2;have e:(itoaB n).size=(Lib.itoa n).length:=by unfold itoaB;show (Lib.itoa n).toArray.size=_;simp
 omega
theorem Zlq (k:Int):(kindS k).size<=10:=by
 unfold kindS;have h:∀x∈kindsL,x.size<=10:=by decide
 cases hk:kindsL[k.toNat]? with
 | none=>rw[List.getD_eq_getElem?_getD,hk];exact Nat.zero_le _
 | some x=>rw[List.getD_eq_getElem?_getD,hk];exact h x (List.mem_of_getElem? hk)
theorem Znm {e:Ev}(h:EvLe 300 e)(h1:InR e.num)(h2:InR e.tick)(h3:InR e.value):∀x∈fmtW e,x.size<=300:=by
 intro x hx;unfold fmtW at hx;simp only[List.mem_cons,List.not_mem_nil,or_false]at hx;have q1:=Zee h1;have q2:=Zee h2;have q3:=Zee h3;have q4:=Zlq e.kind;obtain⟨a1,a2,a3,a4⟩:=h;rcases hx with rfl|rfl|rfl|rfl|rfl|rfl|rfl|rfl <;> omega
def FmS (W:World)(eb:Nat)(e:Ev)(ks:ByteArray)(j:Nat):Prop:=World.cell? W ⟨eb,0,none⟩=some (.string e.src)/\World.cell? W ⟨eb,1,none⟩=some (.int .i64 e.num)/\World.cell? W ⟨eb,2,none⟩=some (.int .i64 e.tick)/\World.cell? W ⟨eb,3,none⟩=some (.int .i64 e.kind)/\World.cell? W ⟨eb,4,none⟩=some (.string e.person)/\World.cell? W ⟨eb,5,none⟩=some (.string e.item)/\World.cell? W ⟨eb,6,none⟩=some (.int .i64 e.value)/\World.cell? W ⟨eb,7,none⟩=some (.string e.text)/\World.cell? W ⟨1,j,none⟩=some (.string ks)
theorem Zf3 (e:Ev)(w:World)(hok:EvOk e)(hv:InR e.value)(hg:GlobAt w)(hkn:KnAt w)(htb:Ru.TabAt w) :
  Calls Tryz.prog 46 #[evA e] w fun x w'=>x = .returned (.string (fmtJ e))/\Below w.heap.size w w':=by
 obtain⟨j,hj⟩:∃j:Nat,e.kind=j:=⟨e.kind.toNat,by
  have h1:=Zdr hok.1;have h2:0<=e.kind:=by
   have h3:=(Zas hok.1).2.2.2;unfold kindB at h3;by_cases hk:0<=e.kind
   ·exact hk
   ·exfalso
    repeat (first|(rw[if_neg (by omega)]at h3)|cases h3)
  omega⟩
 have hj15:j<15:=by have:=Zdr hok.1;omega
 obtain⟨ks,hks⟩:∃ks,kindsL[j]? = some ks:=⟨kindsL[j]'(by show j<15;exact hj15),List.getElem?_eq_getElem _⟩
 have HKS:Hid (kindS e.kind=ks):=zh (by unfold kindS;rw[hj,Int.toNat_natCast,List.getD_eq_getElem?_getD,hks];rfl);obtain⟨w1,hw1⟩:=zG (w.alloc (.cells (evArr e) 59));have HE1:Hid (Blk w1 w.heap.size 59 (evArr e)):=zB hw1;have HB1:=zA hw1;have HM:=zh (may_any e w1 hok.sh (hg.keep HB1.o (zr _)));rw[hok.1]at HM;have HKN:=zh hkn;have HTB:=zh htb;have hp:=Zas hok.1;have HN1:Hid (InR e.num):=zh (by unfold InR;omega);have HN2:Hid (InR e.tick):=zh (by unfold InR;omega);have HN3:Hid (InR e.value):=zh hv;have HSZ:=zh (Znm hok.2 HN1.o HN2.o hv);obtain⟨d0,d1,d2,d3,d4,d5,d6,d7⟩:=zC8 HE1.o;have HKJ:=zh hj;have HKL:=zh hks;clear hok hv hg hkn htb hp hj hks;unfold evA at HM ⊢;unfold evArr at hw1;go_enter Tryz.func46,Tryz.ntmps46;go_wp2_with fail;refine HM.o.mono ?_;rintro e' w2 ⟨rfl,hb2⟩;have HB2:=zT HB1 hb2;have HE2:Hid (Blk w2 w.heap.size 59 (evArr e)):=zX HE1 hb2
 have HSC:Hid (∀W,Below w2.heap.size w2 W->FmS W w.heap.size e ks j):=zh (fun W hb=>by
  have h1:Blk W w.heap.size 59 (evArr e):=(hb.block _ HE2.o.lt).trans HE2.o;exact⟨h1.cell 0,h1.cell 1,h1.cell 2,h1.cell 3,h1.cell 4,h1.cell 5,h1.cell 6,h1.cell 7,((HKN.o.keep HB2.o (zr _)).keep hb (zr _)).2 j ks HKL.o⟩)
 have hk1:(0:Int)<=e.kind:=by have:=HKJ.o;omega
 have hk2:e.kind<15:=by have:=HKJ.o;omega
 have hk3:e.kind.toNat=j:=by have:=HKJ.o;omega
 clear hb2 hw1 d0 d1 d2 d3 d4 d5 d6 d7 HM HE1 HB1;go_upto_region 3 with fail;refine Zar (fun W=>Below w2.heap.size w2 W) [(0,false),(1,false),(2,false),(3,false),(5,false),(6,false),(8,false),(9,false),(10,false),(11,false),(12,false),(13,false),(14,false),(15,false),(16,false),(17,false),(19,false),(20,false),(4,true),(7,true),(18,true),(21,true),(22,false)] (by kernel_rfl) (by kernel_rfl) (below_drew (Below.refl _ _)) ?_;simp only[planL,xq4,xq5]
 repeat ((first|(refine Zaf _ (by rfl) (fun W hW=>by (obtain⟨x0,x1,x2,x3,x4,x5,x6,x7,x8⟩:=HSC.o W hW;go_simp;try with_reducible rfl)) ?_)|(refine Zac (by rfl) ?_));simp only[Act.put,xq1,xq2,xq3])
 obtain⟨s1,hs1⟩:=zG (itoaB e.num);obtain⟨s2,hs2⟩:=zG (itoaB e.tick);obtain⟨s3,hs3⟩:=zG (itoaB e.value);have HI1:Hid (∀W,Below w2.heap.size w2 W->Calls Tryz.prog 72 #[.int .i64 e.num] W fun x w'=>x = .returned (.string s1)/\Below W.heap.size W w'):=zh (fun W hb=>by rw[<-hs1];exact Ru.Zbx e.num HN1.o.1 HN1.o.2 W ((HTB.o.keep HB2.o).keep hb));have HI2:Hid (∀W,Below w2.heap.size w2 W->Calls Tryz.prog 72 #[.int .i64 e.tick] W fun x w'=>x = .returned (.string s2)/\Below W.heap.size W w'):=zh (fun W hb=>by rw[<-hs2];exact Ru.Zbx e.tick HN2.o.1 HN2.o.2 W ((HTB.o.keep HB2.o).keep hb));have HI3:Hid (∀W,Below w2.heap.size w2 W->Calls Tryz.prog 72 #[.int .i64 e.value] W fun x w'=>x = .returned (.string s3)/\Below W.heap.size W w'):=zh (fun W hb=>by rw[<-hs3];exact Ru.Zbx e.value HN3.o.1 HN3.o.2 W ((HTB.o.keep HB2.o).keep hb));have HLW:Hid (fmtW e = [e.src,s1,s2,ks,e.person,e.item,s3,e.text]):=zh (by unfold fmtW;rw[hs1,hs2,hs3,HKS.o]);clear hs1 hs2 hs3;obtain⟨wd,hwd⟩:=zG (w2.drew);have HBD:=zD hwd;rw[hwd];clear hwd;refine Zae ?_;have HC:=zh (HI1.o wd HBD.o);go_wp2_with fail;refine HC.o.mono ?_;rintro e' w3 ⟨rfl,hb3⟩;have HB3:=zT HBD hb3;clear hb3 HC HI1;go_wp2_with fail;refine⟨HB3.o,?_⟩;refine Zae ?_;have HC:=zh (HI2.o w3 HB3.o);go_wp2_with fail;refine HC.o.mono ?_;rintro e' w4 ⟨rfl,hb4⟩;have HB4:=zT HB3 hb4;clear hb4 HC HI2;go_wp2_with fail;refine⟨HB4.o,?_⟩;refine Zae ?_;have HC:=zh (HI3.o w4 HB4.o);go_wp2_with fail;refine HC.o.mono ?_;rintro e' w5 ⟨rfl,hb5⟩;have HB5:=zT HB4 hb5;clear hb5 HC HI3;go_wp2_with fail;refine⟨HB5.o,?_⟩;refine Zae ?_;go_wp2_with fail;obtain⟨w6,hw6⟩:=zG (w5.alloc (.cells #[.string e.src,.string s1,.string s2,.string ks,.string e.person,.string e.item,.string s3,.string e.text] 9));rw[hw6];obtain⟨L,hL⟩:=zG ([e.src,s1,s2,ks,e.person,e.item,s3,e.text]);obtain⟨g,hg⟩:=zG (w5.heap.size);have HB6:Hid (Below w2.heap.size w2 w6):=zh (by rw[<-hw6];exact HB5.o.alloc HB5.o.size _);have HX6:Hid (Blk w6 g 9 ((midD L 0).map Value.string).toArray):=zh (by rw[Znj,<-hL,<-hw6,<-hg];exact Blk.new _ _ _);have HLN:Hid (L.length=8):=zh (by rw[<-hL];rfl);have HGZ:Hid (w2.heap.size<=g):=zh (by rw[<-hg];exact HB5.o.size);rw[hL]at HLW;rw[HLW.o]at HSZ;rw[hg];clear hw6 hL hg;refine⟨HB6.o,?_⟩
 repeat ((first|(refine Zaf _ (by rfl) (fun W hW=>by (obtain⟨x0,x1,x2,x3,x4,x5,x6,x7,x8⟩:=HSC.o W hW;go_simp;try with_reducible rfl)) ?_)|(refine Zac (by rfl) ?_));simp only[Act.put,xq1,xq2,xq3])
 refine Zah ?_;go_wp2_with fail;go_loopw [33] (fun i wr=>∃k:Nat,k<=8/\i = .int .i64 k/\Hid (Blk wr g 9 ((midD L k).map Value.string).toArray)/\Hid (Below w2.heap.size w2 wr)) (fun i _=>8 - (intOf i).toNat)
 case atStart=>exact⟨0,Nat.zero_le _,rfl,HX6,HB6⟩
 case round=>
  clear HB6 HX6;obtain⟨k,hk,rfl,hbk,hbw⟩:=hrel;have hglt:=hbk.o.lt;by_cases hlt:k<8
  ·obtain⟨x,hx⟩:∃x,L[k]? = some x:=⟨L[k]'(by rw[HLN.o];exact hlt),List.getElem?_eq_getElem _⟩
   have c0:wr.cell? ⟨g,k,none⟩=some (.string x):=by
    rw[hbk.o.cell,List.getElem?_toArray,List.getElem?_map,Znk hx]
    rfl
   have f0:wr.frozen? ⟨g,k,none⟩=false:=hbk.o.frozen k;have hk8:(k:Int)<8:=by omega
   have hk9:(0:Int)<=(k:Int):=by omega
   have HX:=zh hx;by_cases hxe:x=⟨#[]⟩
   ·have hb:x.toList.isEmpty=true:=by rw[Zcj];simp[hxe]
    have HS:Hid ((midD L k).set k ⟨#[46]⟩=midD L (k+1)):=zh (by rw[<-Zko hx];unfold dotB;rw[if_pos hxe]);clear hx hxe;go_wp2_with fail;go_roundw
    case rel=>
     refine⟨k+1,by omega,by go_num,zh ?_,zh (hbw.o.setCell (p:=⟨g,k,none⟩) HGZ.o _)⟩;have h1:=hbk.o.set_ k (.string ⟨#[46]⟩);rw[<-HS.o,List.map_set];simpa using h1
    case measure=>simp[intOf];omega
   ·have hb:x.toList.isEmpty=false:=by rw[Zcj];simp[hxe]
    have HS:Hid (midD L k=midD L (k+1)):=zh (Znl hx hxe);clear hx hxe;go_wp2_with fail;go_roundw
    case rel=>exact⟨k+1,by omega,by go_num,zh (by rw[<-HS.o];exact hbk.o),hbw⟩
    case measure=>simp[intOf];omega
  ·obtain rfl:k=8:=by omega
   have HF:Hid (Blk wr g 9 ((L.map dotB).map Value.string).toArray):=zh (by
    have:=hbk.o;rw[<-HLN.o,Zp3]at this;exact this)
   have HJ:=zh (Ru.Zpr g 0 8 (L.map dotB) ⟨#[32]⟩ wr (fun j x hx=>by
    rw[Nat.zero_add,HF.o.cell,List.getElem?_toArray,List.getElem?_map,hx]
    rfl) hglt (by rw[List.length_map,HLN.o];omega) (by rw[List.length_map,HLN.o];omega) (by
    have h1:=Zp4 301 [32] ((L.map dotB).map (·.data.toList)) (fun x hx=>by
     obtain⟨y,hy,rfl⟩:=List.mem_map.1 hx;obtain⟨z,hz,rfl⟩:=List.mem_map.1 hy;have h2:=HSZ.o z hz;have h3:(dotB z).data.toList.length=(dotB z).size:=by simp
     rw[h3];unfold dotB;split
     ·show (1:Nat)<=301;omega
     ·omega)
    rw[List.length_map,List.length_map,HLN.o]at h1;exact Nat.le_trans h1 (by simp)))
   rw[List.length_map,HLN.o]at HJ;clear hbk hlt;go_wp2_with fail;refine HJ.o.mono ?_;rintro e' w9 ⟨rfl,hb9⟩;have HB9:=zh hb9;clear hb9 HJ;go_wp2_with fail;go_ret;refine⟨?_,HB2.o.trans ((hbw.o.trans (HB9.o.mono hbw.o.size)).mono HB2.o.size)⟩;unfold fmtJ;rw[HLW.o,List.map_map]
   rfl
end Go.Proofs.YtnpfaajhgghpgaaGreatDoor
namespace Go.Proofs.YtnpfaajhgghpgaaGreatDoor
open Go.Shelf Go.RowKit Go.Maps
theorem Zlr (w:World)(wb base:Nat)(c:Cfg)(v:Value)(a:Bool)(last:Ev)(b:Wb)(τ:Nat->Nat)(n:Nat)(es' ad:List Ev)(S:ByteArray->Bool)(es:List Ev)(e:Ev)(h:WdG w wb base c v a last b τ n es' ad S (thgs es) (rowsW es))(hk:e.kind=14) :
  Calls Tryz.prog 48 #[.pointer (some ⟨wb,0,none⟩),evA e] w (CountR τ w wb base c v a last b n es' ad S (es++[e])):=by
 obtain⟨w1,hw1⟩:=zG (w.alloc (.cells (evArr e) 59));have HE1:Hid (Blk w1 w.heap.size 59 (evArr e)):=zB hw1;have HB1:=zA hw1;have HI1:Hid (WdG w1 wb base c v a last b τ n es' ad S (thgs es) (rowsW es)):=zh (h.below HB1.o);have HTH:Hid (thgs (es++[e])=thgs es):=zh (Zib (by unfold isCat;exact decide_eq_false (by omega)));have HRW:Hid (rowsW (es++[e])=rowsW es):=zh (Zia (by omega));have e3:w1.cell? ⟨w.heap.size,3,none⟩=some (.int .i64 e.kind):=HE1.o.cell 3;have z11:(e.kind == 11)=false:=by rw[hk];rfl
 have z12:(e.kind == 12)=false:=by rw[hk];rfl
 have z13:(e.kind == 13)=false:=by rw[hk];rfl
 have z14:(e.kind == 14)=true:=by rw[hk];rfl
 clear h hk;unfold evA;unfold evArr at hw1;go_enter Tryz.func48,Tryz.ntmps48;go_wp2_with fail
 (try simp only[Exit.inBlock,Exit.then]);refine bodyPost_ret (results_none rfl _ _ _) rfl ?_
 refine⟨rfl,τ,?_,below_kept HB1.o (zr _),fun _ _=>rfl⟩;rw[HTH.o,HRW.o];exact HI1.o.mono (by omega)
def itArr (x:Ct.It):Array Value:=#[.string x.name,.string x.maker,.string x.tags,.int .i64 x.stock,.int .i64 x.price,.int .i64 x.born,.bool x.listed]
theorem Znn:(Tryz.prog.info? 95).map (·.size)=some 7:=by kernel_rfl
def AtBox (w:World)(v5:Value)(x:Ct.It)(wx:World):Prop:=∃ib,v5 = .pointer (some ⟨ib,0,none⟩)/\Blk wx ib 95 (itArr x)/\Below w.heap.size w wx
def TagBox (w:World)(v4:Value)(ts:List ByteArray)(wx:World):Prop:=∃A cc,v4 = .slice A ts.length cc/\RowIn wx wx.heap.size 1 A ts.length (ts.map .string)/\(∀ad,A=some ad->w.heap.size<=ad.block)/\Below w.heap.size w wx
theorem Zja (es:List Ev)(e:Ev):tagsOf es e=if (Ct.atP (thgs es) e.item e.tick).isSome then evTags ((⟨#[59]⟩:ByteArray)++((Ct.atP (thgs es) e.item e.tick).getD Ct.it0).tags) else []:=by
 unfold tagsOf;cases Ct.atP (thgs es) e.item e.tick <;> rfl
theorem Zp5 {es:List Ev}(hall:∀x∈es,EvOk x){e:Ev}(hok:EvOk e):(((⟨#[59]⟩:ByteArray)++((Ct.atP (thgs es) e.item e.tick).getD Ct.it0).tags).size<=301)/\(tagsOf es e).length<=400/\∀t∈tagsOf es e,t.size<=301:=by
 have h1:((Ct.atP (thgs es) e.item e.tick).getD Ct.it0).tags.size<=300:=by
  cases ha:Ct.atP (thgs es) e.item e.tick with
  | none=>exact Nat.zero_le _
  | some x=>exact (at_ok (m:=300) (fun y hy=>(hall y hy).1) (fun y hy=>(hall y hy).2) hok.2.2.2.1 ha).tags
 have h2:((⟨#[59]⟩:ByteArray)++((Ct.atP (thgs es) e.item e.tick).getD Ct.it0).tags).size<=301:=by
  rw[ByteArray.size_append];have:(⟨#[59]⟩:ByteArray).size=1:=rfl;omega
 refine⟨h2,?_,fun t ht=>?_⟩
 ·rw[Zja];split
  ·unfold evTags;split
   ·exact Nat.zero_le _
   ·have h3:=Ru.Zf2 (restP ((⟨#[59]⟩:ByteArray)++((Ct.atP (thgs es) e.item e.tick).getD Ct.it0).tags));have h4:=Ze5 ((⟨#[59]⟩:ByteArray)++((Ct.atP (thgs es) e.item e.tick).getD Ct.it0).tags);omega
  ·exact Nat.zero_le _
 ·rw[Zja]at ht;split at ht
  ·exact Nat.le_trans (Zgf _ t ht) h2
  ·cases ht
theorem Zp6 {e:Ev}(h:mayB e=true)(h0:0<worthP e):(1<=e.item.size/\e.item.size<=24)/\(1<=e.person.size/\e.person.size<=24)/\worthP e<=5:=by
 have h1:=(Zas h).2.2.2
 have nm:∀s:ByteArray,nameB s=true->1<=s.size/\s.size<=24:=fun s hs=>by
  unfold nameB at hs;rw[Bool.and_eq_true]at hs;exact of_decide_eq_true hs.1
 unfold kindB at h1;unfold worthP at h0 ⊢;by_cases k1:e.kind=1
 ·rw[k1]at h1;simp at h1;rw[if_pos k1];exact⟨nm _ h1.2.1,nm _ h1.1,by omega⟩
 ·by_cases k2:e.kind=2
  ·rw[k2]at h1;simp at h1;rw[if_neg k1,if_pos k2];exact⟨nm _ h1.2.1,nm _ h1.1,by omega⟩
  ·by_cases k3:e.kind=3
   ·rw[k3]at h1;simp at h1;rw[if_neg k1,if_neg k2,if_pos k3];exact⟨nm _ h1.2.1,nm _ h1.1,by omega⟩
   ·by_cases k4:e.kind=4
    ·rw[k4]at h1;simp at h1;rw[if_neg k1,if_neg k2,if_neg k3,if_pos k4];exact⟨nm _ h1.2.1,nm _ h1.1,h1.2.2.2.1⟩
    ·rw[if_neg k1,if_neg k2,if_neg k3,if_neg k4]at h0;omega
theorem WdG.new1 {w w':World}{wb base n:Nat}{c:Cfg}{v:Value}{a a':Bool}{last last':Ev}{b:Wb}{τ:Nat->Nat}{es ad:List Ev}{S:ByteArray->Bool}{th:List Ev}{rs:List Rw}(h:WdG w wb base c v a last b τ n es ad S th rs)(h':Blk w' wb 75 (wdCells c v a' last' b))(k:Kept (fun q=>q=wb) w w'):WdG w' wb base c v a' last' b (tauM τ w.heap.size w'.heap.size 1) n es ad S th rs:=by
 have R:=h.rest (m:=1) (k.mono (fun q _ hq=>by rw[hq];exact h.tw)) (by omega) h.base_le;exact⟨h',R.row (by omega),R.add (by omega),R.fgt (by omega),R.cat (by omega),R.crw (by omega),R.pop (by omega),R.pan (by omega),R.ses (by omega),R.tw,R.ta,R.tf,R.tr (by omega),R.low⟩
end Go.Proofs.YtnpfaajhgghpgaaGreatDoor
namespace Go.Proofs.YtnpfaajhgghpgaaGreatDoor
open Go.Shelf Go.RowKit Go.Maps
theorem Zjb (w:World)(wb base:Nat)(c:Cfg)(v:Value)(a:Bool)(last:Ev)(b:Wb)(τ:Nat->Nat)(n:Nat)(es' ad:List Ev)(S:ByteArray->Bool)(es:List Ev)(e:Ev)(h:WdG w wb base c v a last b τ n es' ad S (thgs es) (rowsW es))(hnx:NextE es e)(hok:EvOk e)(hall:∀x∈es,EvOk x)(hlen:es.length<=10000)(hn:n<=800000)(hg:GlobAt w)(hk:e.kind<11) :
  Calls Tryz.prog 48 #[.pointer (some ⟨wb,0,none⟩),evA e] w (CountR τ w wb base c v a last b n es' ad S (es++[e])):=by
 obtain⟨w1,hw1⟩:=zG (w.alloc (.cells (evArr e) 59));have HE1:Hid (Blk w1 w.heap.size 59 (evArr e)):=zB hw1;have HB1:=zA hw1;have HI1:Hid (WdG w1 wb base c v a last b τ n es' ad S (thgs es) (rowsW es)):=zh (h.below HB1.o);have HG1:Hid (GlobAt w1):=zh (hg.keep HB1.o (zr _));have HSC:Hid (∀W,Below w1.heap.size w1 W->CnS W wb 18 w.heap.size (.pointer (some ⟨b.ct,0,none⟩)) e):=zh (fun W hb=>Zby ((hb.block _ HI1.o.blk.lt).trans HI1.o.blk) rfl ((hb.block _ HE1.o.lt).trans HE1.o));obtain⟨F,hF,hFt⟩:=HI1.o.cat;have HF:=zh hF;have htl:=Zdo es;have HFEW:=zh (Zp5 hall hok);have HOK:=zh hok;have HTAGS:=zh (Zja es e);have hitl:e.item.size<=1000000:=hok.sh.2.2.1;obtain⟨x,hx⟩:=zG (Ct.atP (thgs es) e.item e.tick);obtain⟨X,hX⟩:=zG (x.getD Ct.it0);obtain⟨ok,hokx⟩:=zG (x.isSome);rw[hx,hX,hokx]at HTAGS;rw[hx,hX]at HFEW
 have HAT:Hid (∀W,Below w1.heap.size w1 W->Calls Tryz.prog 68 #[.pointer (some ⟨b.ct,0,none⟩),.string e.item,.int .i64 e.tick] W fun e w'=>e = .returned (.tuple #[.agg #[.string X.name,.string X.maker,.string X.tags,.int .i64 X.stock,.int .i64 X.price,.int .i64 X.born,.bool X.listed],.bool ok])/\Below W.heap.size W w'):=zh (fun W hb=>by
  have:=Ct.Zj9 b.ct F (thgs es) e.item e.tick W (HF.o.below hb) hitl (by omega);unfold Ct.toldP Ct.itA at this;rw[hx,hX,hokx]at this;exact this)
 have HRW:Hid (rowsW (es++[e])=rowsW es++[⟨e,tagsP (tagsOf es e)⟩]):=zh (by rw[Zb9];unfold rwStep;rw[if_pos hk]);have HTH:Hid (thgs (es++[e])=thgs es):=zh (Zib (by unfold isCat;exact decide_eq_false (by omega)));have HTK:Hid (takesC (rowsW es) e=true):=zh (Ziu hnx hok.1 hk);have HRL:Hid ((rowsW es).length<=10000):=zh (Nat.le_trans (Zcs es) hlen);have e3:w1.cell? ⟨w.heap.size,3,none⟩=some (.int .i64 e.kind):=HE1.o.cell 3;have z11:(e.kind == 11)=false:=by simp;omega
 have z12:(e.kind == 12)=false:=by simp;omega
 have z13:(e.kind == 13)=false:=by simp;omega
 have z14:(e.kind == 14)=false:=by simp;omega
 have HEB:Hid (τ w.heap.size=0):=zh (by
  by_cases hz:τ w.heap.size=0
  ·exact hz
  ·have:=(h.low _ hz).2;omega)
 clear h hF hFt hnx hok hall hlen hg hk htl hx hX hokx hitl;unfold evA;unfold evArr at hw1;go_enter Tryz.func48,Tryz.ntmps48;go_upto_region 8 with fail;go_cut [5,6] (fun v5 v6 wx=>Hid (AtBox w1 v5 X wx)/\v6 = .bool ok)
 case first=>
  refine Zgw (fun W=>Below w1.heap.size w1 W) (.take 0 (.take 1 (.take 2 (.take 3 (.take 4 (.take 5 (.take 6 (.take 7 (.fork 8 (.take 9 (.take 10 (.take 11 (.turn 12 (.turn 13 (.take 14 .done)))))) 12 (.turn 8 (.take 9 (.take 10 (.take 11 (.turn 13 (.take 14 .done))))))))))))))) (by kernel_rfl) (by kernel_rfl) (below_drew (Below.refl _ _)) ?_;simp only[planTL,xq4,xq5];obtain⟨wd,hwd⟩:=zG (w1.drew);have HBD:=zD hwd;rw[hwd];clear hwd
  repeat ((first|(refine Zal _ (by rfl) (fun W hW=>by (obtain⟨x8,x0,x1,x2,x3,x4,x5,x6,x7⟩:=HSC.o W hW;go_simp;try with_reducible rfl)) ?_)|(refine planT_off (by rfl) ?_));simp only[Act.put,xq1,xq2,xq3])
  refine Zcc ?_ ?_
  case refine_1=>
   have HC:=zh (HAT.o wd HBD.o);go_wp2_with fail;refine HC.o.mono ?_;rintro e' w2 ⟨rfl,hb2⟩;have HB2:=zT HBD hb2;clear hb2 HC;go_wp2_with fail;refine⟨HB2.o,?_⟩
   repeat ((first|(refine Zal _ (by rfl) (fun W hW=>by (obtain⟨x8,x0,x1,x2,x3,x4,x5,x6,x7⟩:=HSC.o W hW;go_simp;try with_reducible rfl)) ?_)|(refine planT_off (by rfl) ?_));simp only[Act.put,xq1,xq2,xq3])
   refine Zap ?_;go_wp2_with fail;obtain⟨w3,hw3⟩:=zG (w2.alloc (.cells #[.string ⟨#[]⟩,.string ⟨#[]⟩,.string ⟨#[]⟩,.int .i64 0,.int .i64 0,.int .i64 0,.bool false] 95));rw[hw3];have HB3:Hid (Below w1.heap.size w1 w3):=zh (by rw[<-hw3];exact HB2.o.alloc HB2.o.size _);have HX3:Hid (Blk w3 w2.heap.size 95 #[.string ⟨#[]⟩,.string ⟨#[]⟩,.string ⟨#[]⟩,.int .i64 0,.int .i64 0,.int .i64 0,.bool false]):=zB hw3;have hz2:=HB2.o.size;clear hw3;refine⟨HB3.o,?_⟩;refine Zap ?_;refine Zad w3 rfl 95 _ _ rfl 0 #[.string X.name,.string X.maker,.string X.tags,.int .i64 X.stock,.int .i64 X.price,.int .i64 X.born,.bool X.listed] rfl rfl HX3.o (by simp) Znn (by simp[Value.oneCell']) ?_;intro w4 hb4 hk4 hs4;have HX4:Hid (Blk w4 w2.heap.size 95 #[.string X.name,.string X.maker,.string X.tags,.int .i64 X.stock,.int .i64 X.price,.int .i64 X.born,.bool X.listed]):=zh hb4;have HB4:Hid (Below w1.heap.size w1 w4):=zh (HB3.o.trans (hk4.toBelow (fun i hi=>by rw[hi];exact hz2) HB3.o.size));clear hb4 hk4 hs4;go_wp2_with fail;refine⟨HB4.o,?_⟩
   repeat ((first|(refine Zal _ (by rfl) (fun W hW=>by (obtain⟨x8,x0,x1,x2,x3,x4,x5,x6,x7⟩:=HSC.o W hW;go_simp;try with_reducible rfl)) ?_)|(refine planT_off (by rfl) ?_));simp only[Act.put,xq1,xq2,xq3])
   refine Zbf ?_;go_wp2_with fail;go_meet;exact⟨zh ⟨_,rfl,HX4.o,HB4.o⟩,rfl⟩
  case refine_2=>
   go_wp2_with fail;obtain⟨w3,hw3⟩:=zG (wd.alloc (.cells #[.string ⟨#[]⟩,.string ⟨#[]⟩,.string ⟨#[]⟩,.int .i64 0,.int .i64 0,.int .i64 0,.bool false] 95));rw[hw3];have HB3:Hid (Below w1.heap.size w1 w3):=zh (by rw[<-hw3];exact HBD.o.alloc HBD.o.size _);have HX3:Hid (Blk w3 wd.heap.size 95 #[.string ⟨#[]⟩,.string ⟨#[]⟩,.string ⟨#[]⟩,.int .i64 0,.int .i64 0,.int .i64 0,.bool false]):=zB hw3;have hz2:=HBD.o.size;clear hw3;refine⟨HB3.o,?_⟩;have HC:=zh (HAT.o w3 HB3.o);refine Zap ?_;go_wp2_with fail;refine HC.o.mono ?_;rintro e' w4 ⟨rfl,hb4⟩;have HB4:=zT HB3 hb4;have HX4:Hid (Blk w4 wd.heap.size 95 #[.string ⟨#[]⟩,.string ⟨#[]⟩,.string ⟨#[]⟩,.int .i64 0,.int .i64 0,.int .i64 0,.bool false]):=zX HX3 hb4;clear hb4 HC;go_wp2_with fail;refine⟨HB4.o,?_⟩
   repeat ((first|(refine Zal _ (by rfl) (fun W hW=>by (obtain⟨x8,x0,x1,x2,x3,x4,x5,x6,x7⟩:=HSC.o W hW;go_simp;try with_reducible rfl)) ?_)|(refine planT_off (by rfl) ?_));simp only[Act.put,xq1,xq2,xq3])
   refine Zap ?_;refine Zad w4 rfl 95 _ _ rfl 0 #[.string X.name,.string X.maker,.string X.tags,.int .i64 X.stock,.int .i64 X.price,.int .i64 X.born,.bool X.listed] rfl rfl HX4.o (by simp) Znn (by simp[Value.oneCell']) ?_;intro w5 hb5 hk5 hs5;have HX5:Hid (Blk w5 wd.heap.size 95 #[.string X.name,.string X.maker,.string X.tags,.int .i64 X.stock,.int .i64 X.price,.int .i64 X.born,.bool X.listed]):=zh hb5;have HB5:Hid (Below w1.heap.size w1 w5):=zh (HB4.o.trans (hk5.toBelow (fun i hi=>by rw[hi];exact hz2) HB4.o.size));clear hb5 hk5 hs5;go_wp2_with fail;refine⟨HB5.o,?_⟩
   repeat ((first|(refine Zal _ (by rfl) (fun W hW=>by (obtain⟨x8,x0,x1,x2,x3,x4,x5,x6,x7⟩:=HSC.o W hW;go_simp;try with_reducible rfl)) ?_)|(refine planT_off (by rfl) ?_));simp only[Act.put,xq1,xq2,xq3])
   refine Zbf ?_;go_wp2_with fail;go_meet;exact⟨zh ⟨_,rfl,HX5.o,HB5.o⟩,rfl⟩
 case rest=>
 obtain⟨hat,rfl⟩:=hcut;obtain⟨w2,rfl⟩:=zH wc;obtain⟨ib,rfl,hib,hb2⟩:=hat.o;have HIB:=zh hib;have HB2:=zh hb2;have HG2:Hid (GlobAt w2):=zh (HG1.o.keep hb2 (zr _));have i2:w2.cell? ⟨ib,2,none⟩=some (.string X.tags):=hib.cell 2;clear hat hib hb2 HAT HSC e3 hw1 z11 z12 z13 z14;have hfew1:=HFEW.o.1;have hfew2:X.tags.size<=301:=by
  rw[ByteArray.size_append]at hfew1;omega
 go_upto_if 34 with fail;go_cut [4] (fun v4 wx=>Hid (TagBox w1 v4 (tagsOf es e) wx))
 case first=>
  cases ok
  ·go_wp2_with fail;go_meet;have ht:tagsOf es e = []:=by rw[HTAGS.o];rfl
   exact zh ⟨none,0,by rw[ht];rfl,by rw[ht];exact RowIn.nil _ _ _ _,fun _ h=>(by cases h),HB2.o⟩
  ·have ht:Hid (tagsOf es e=evTags ((⟨#[59]⟩:ByteArray)++X.tags)):=zh (by rw[HTAGS.o];rfl);have HT:=zh (Zi3 ((⟨#[59]⟩:ByteArray)++X.tags) w2 (by omega) HG2.o);have hs1:(⟨#[59]⟩:ByteArray).size=1:=rfl;go_wp2_with fail;refine HT.o.mono ?_;rintro e' w3 ⟨A,cc,rfl,hr,_,hnew,hb3⟩;have HR:=zh hr;have HN:=zh hnew;have HB3:=zh hb3;clear hr hnew hb3 HT;go_wp2_with fail;go_meet;have hz:=HB2.o.size;exact zh ⟨A,cc,by rw[ht.o],by rw[ht.o];exact HR.o,fun ad had=>Nat.le_trans hz (HN.o ad had),HB2.o.trans (HB3.o.mono hz)⟩
 case rest=>
 obtain⟨w3,rfl⟩:=zH wc;obtain⟨A,cc,rfl,hrow,hnew,hb3⟩:=hcut.o;obtain⟨L,hL⟩:=zG ((tagsOf es e).length);rw[hL]at hrow;have hL4:L<=400:=by rw[<-hL];exact HFEW.o.2.1
 have HB3:=zh hb3;have HI3:Hid (WdG w3 wb base c v a last b τ n es' ad S (thgs es) (rowsW es)):=zh (HI1.o.below hb3);have HE3:Hid (Blk w3 w.heap.size 59 (evArr e)):=zX HE1 hb3;have HG3:Hid (GlobAt w3):=zh (HG1.o.keep hb3 (zr _));obtain⟨U,hU,hUt⟩:=HI3.o.crw;have HU:=zh hU;have HUT:=zh hUt;have HRL2:=HRL.o
 have HAP:=zh (apply_any w3.drew b.cr (halfP c.half) U (rowsW es) e A (tagsOf es e) L cc (hU.kept ((Kept.refl (fun _=>False) w3).drew) (fun _ _ h=>h)) HOK.o.sh hL hrow.drew (fun t ht=>by have:=HFEW.o.2.2 t ht;unfold maxLen;omega) HG3.o.drew (by omega) (by omega) (fun _ ad had hu=>by
  have h1:=hnew ad had;have h2:=(HI1.o.low ad.block (by rw[hUt _ hu];omega)).2;omega))
 have HS3:Hid (CnS w3.drew wb 19 w.heap.size (.pointer (some ⟨b.cr,0,none⟩)) e):=zh (Zby HI3.o.blk.drew rfl HE3.o.drew);unfold evA at HAP;rw[hL];clear hU hUt hrow hnew hb3 hcut i2;go_wp2_with fail;refine Zaq (fun W=>CnS W wb 19 w.heap.size (.pointer (some ⟨b.cr,0,none⟩)) e) [(0,1),(1,1),(2,1),(3,1),(4,1),(5,1),(6,3)] (by kernel_rfl) (by kernel_rfl) HS3.o ?_;simp only[planNL,xq4,xq5]
 repeat (first|(refine Zan _ (by rfl) (fun W hW=>by (obtain⟨x8,x0,x1,x2,x3,x4,x5,x6,x7⟩:=hW;go_simp;try with_reducible rfl)) ?_;simp only[Act.put,xq1,xq2,xq3])|(refine planN_off (by rfl) ?_;simp only[Act.put,xq1,xq2,xq3])|(refine planN_on0 _ (by rfl) (fun W hW=>by (go_simp;try with_reducible rfl)) ?_;simp only[Act.put,xq1,xq2,xq3]))
 refine Zai ?_;go_wp2_with fail;refine HAP.o.mono ?_;rintro e' w4 ⟨rfl,U',h1,_,h3,h4⟩;have k34:Kept U w3 w4:=((Kept.refl U w3).drew).trans h4;have HK34:=zh k34
 have HI4:Hid (WdG w4 wb base c v a last b (tauM τ w3.heap.size w4.heap.size 5) n es' ad S (thgs es) (rowsW (es++[e]))):=zh (HI3.o.new5 HUT.o HU.o.lt (by
  have:aftC (rowsW es) ⟨e,tagsOf es e⟩=rowsW (es++[e]):=by
   unfold aftC;rw[show takesC (rowsW es) (⟨e,tagsOf es e⟩:Rw).e=true from HTK.o,if_pos rfl,HRW.o]
  rw[<-this];exact h1) h3 k34)
 have HE4:Hid (Blk w4 w.heap.size 59 (evArr e)):=zh (HE3.o.kept k34 (fun hu=>by have:=HUT.o _ hu;rw[HEB.o]at this;cases this));have HKB4:Hid (Kept (fun q=>τ q≠0) w w4):=zh (((below_kept HB1.o (zr _)).trans (below_kept HB3.o (zr _))).trans (k34.mono (fun i _ hi=>by rw[HUT.o i hi];omega)));have HT4:Hid (tauM τ w3.heap.size w4.heap.size 5 w.heap.size=0):=zh (by rw[Zat HE3.o.lt];exact HEB.o);have HO4:Hid (∀q,q<w.heap.size->tauM τ w3.heap.size w4.heap.size 5 q=τ q):=zh (fun q hq=>Zat (Nat.lt_trans hq HE3.o.lt));obtain⟨τ4,hτ4⟩:=zG (tauM τ w3.heap.size w4.heap.size 5);rw[hτ4]at HI4 HT4 HO4;have HW:=zh (Zhs e w4);obtain⟨d0,d1,d2,d3,d4,d5,d6,d7⟩:=zC8 HE4.o;unfold evA at HW;clear h1 h3 h4 k34 HAP hτ4 HIB HB2 HG2 HFEW hfew1 hfew2;go_wp2_with fail;refine Zaj ?_;go_wp2_with fail;refine HW.o.mono ?_;rintro e' w5 ⟨rfl,hb5⟩;have HI5:Hid (WdG w5 wb base c v a last b τ4 n es' ad S (thgs es) (rowsW (es++[e]))):=zh (HI4.o.below hb5);have HE5:Hid (Blk w5 w.heap.size 59 (evArr e)):=zX HE4 hb5;have HKB5:Hid (Kept (fun q=>τ q≠0) w w5):=zh (HKB4.o.trans (below_kept hb5 (zr _)));clear hb5 HW d0 d1 d2 d3 d4 d5 d6 d7 HI4 HE4 HKB4;by_cases hw0:0<worthP e
 rotate_left
 ·have q0:decide (0<worthP e)=false:=decide_eq_false hw0;clear hw0;go_wp2_with fail;go_end0;exact⟨rfl,τ4,by rw[HTH.o];exact HI5.o.mono (by omega),HKB5.o,HO4.o⟩
 have HMD:=zh (Zp6 HOK.o.1 hw0);have HTK5:=zh (Zas HOK.o.1).2.2.1;have HW1:Hid (1<=worthP e/\worthP e<=1048576):=zh (by have:=HMD.o.2.2;omega);obtain⟨wt,hwt⟩:=zG (worthP e);rw[hwt]at HW1 hw0;rw[hwt];have q0:decide (0<wt)=true:=decide_eq_true hw0;clear hwt hw0;obtain⟨B6,h6,h6t⟩:=HI5.o.pop;have H6:=zh h6;have H6T:=zh h6t;have HC6:=zh (Zo8 w5.drew b.dc B6 n (h6.kept ((Kept.refl (fun _=>False) w5).drew) (fun _ _ h=>h)) e.item e.tick wt HMD.o.1 HTK5.o ⟨by have:=HW1.o.1;omega,HW1.o.2⟩ (by omega));have HS5:Hid (CnS w5.drew wb 20 w.heap.size (.pointer (some ⟨b.dc,0,none⟩)) e):=zh (Zby HI5.o.blk.drew rfl HE5.o.drew);clear h6 h6t;go_wp2_with fail;refine Zaq (fun W=>CnS W wb 20 w.heap.size (.pointer (some ⟨b.dc,0,none⟩)) e) [(0,1),(1,1),(2,1),(3,1),(4,1),(5,1),(6,1),(7,1),(8,1),(9,3)] (by kernel_rfl) (by kernel_rfl) HS5.o ?_;simp only[planNL,xq4,xq5]
 repeat (first|(refine Zan _ (by rfl) (fun W hW=>by (obtain⟨x8,x0,x1,x2,x3,x4,x5,x6,x7⟩:=hW;go_simp;try with_reducible rfl)) ?_;simp only[Act.put,xq1,xq2,xq3])|(refine planN_off (by rfl) ?_;simp only[Act.put,xq1,xq2,xq3])|(refine planN_on0 _ (by rfl) (fun W hW=>by (go_simp;try with_reducible rfl)) ?_;simp only[Act.put,xq1,xq2,xq3]))
 refine Zai ?_;go_wp2_with fail;refine HC6.o.mono ?_;rintro e' w6 ⟨rfl,F6,a6,g6,k6⟩;have k56:Kept B6 w5 w6:=((Kept.refl B6 w5).drew).trans k6;have HI6:Hid (WdG w6 wb base c v a last b (tauM τ4 w5.heap.size w6.heap.size 6) (n+2) es' ad S (thgs es) (rowsW (es++[e]))):=zh (HI5.o.new6 (by omega) H6T.o H6.o.lt a6 g6.new k56);have HE6:Hid (Blk w6 w.heap.size 59 (evArr e)):=zh (HE5.o.kept k56 (fun hu=>by have:=H6T.o _ hu;rw[HT4.o]at this;cases this));have HKB6:Hid (Kept (fun q=>τ q≠0) w w6):=zh (HKB5.o.trans' k56 (fun i hi hB=>by rw[<-HO4.o i hi,H6T.o i hB];omega));have HT6:Hid (tauM τ4 w5.heap.size w6.heap.size 6 w.heap.size=0):=zh (by rw[Zat HE5.o.lt];exact HT4.o);have HO6:Hid (∀q,q<w.heap.size->tauM τ4 w5.heap.size w6.heap.size 6 q=τ q):=zh (fun q hq=>by rw[Zat (Nat.lt_trans hq HE5.o.lt)];exact HO4.o q hq);obtain⟨τ6,hτ6⟩:=zG (tauM τ4 w5.heap.size w6.heap.size 6);rw[hτ6]at HI6 HT6 HO6;obtain⟨B7,h7,h7t⟩:=HI6.o.pan;have H7:=zh h7;have H7T:=zh h7t;have HC7:=zh (Zpe w6.drew b.pn B7 (n+2) (h7.kept ((Kept.refl (fun _=>False) w6).drew) (fun _ _ h=>h)) e.item e.tick wt HMD.o.1 HTK5.o HW1.o (by omega));have HS6:Hid (CnS w6.drew wb 21 w.heap.size (.pointer (some ⟨b.pn,0,none⟩)) e):=zh (Zby HI6.o.blk.drew rfl HE6.o.drew);clear h7 h7t a6 g6 k6 k56 hτ6 HC6 HI5 HE5 HKB5;go_wp2_with fail;refine Zaj ?_;go_wp2_with fail;refine Zaq (fun W=>CnS W wb 21 w.heap.size (.pointer (some ⟨b.pn,0,none⟩)) e) [(0,1),(1,1),(2,1),(3,1),(4,1),(5,1),(6,1),(7,1),(8,1),(9,3)] (by kernel_rfl) (by kernel_rfl) HS6.o ?_;simp only[planNL,xq4,xq5]
 repeat (first|(refine Zan _ (by rfl) (fun W hW=>by (obtain⟨x8,x0,x1,x2,x3,x4,x5,x6,x7⟩:=hW;go_simp;try with_reducible rfl)) ?_;simp only[Act.put,xq1,xq2,xq3])|(refine planN_off (by rfl) ?_;simp only[Act.put,xq1,xq2,xq3])|(refine planN_on0 _ (by rfl) (fun W hW=>by (go_simp;try with_reducible rfl)) ?_;simp only[Act.put,xq1,xq2,xq3]))
 refine Zai ?_;go_wp2_with fail;refine HC7.o.mono ?_;rintro e' w7 ⟨rfl,F7,a7,g7,k7⟩;have k67:Kept B7 w6 w7:=((Kept.refl B7 w6).drew).trans k7;have HI7:Hid (WdG w7 wb base c v a last b (tauM τ6 w6.heap.size w7.heap.size 7) (n+2+3) es' ad S (thgs es) (rowsW (es++[e]))):=zh (HI6.o.new7 (by omega) H7T.o H7.o.lt a7 g7.new k67);have HE7:Hid (Blk w7 w.heap.size 59 (evArr e)):=zh (HE6.o.kept k67 (fun hu=>by have:=H7T.o _ hu;rw[HT6.o]at this;cases this));have HKB7:Hid (Kept (fun q=>τ q≠0) w w7):=zh (HKB6.o.trans' k67 (fun i hi hB=>by rw[<-HO6.o i hi,H7T.o i hB];omega));have HT7:Hid (tauM τ6 w6.heap.size w7.heap.size 7 w.heap.size=0):=zh (by rw[Zat HE6.o.lt];exact HT6.o);have HO7:Hid (∀q,q<w.heap.size->tauM τ6 w6.heap.size w7.heap.size 7 q=τ q):=zh (fun q hq=>by rw[Zat (Nat.lt_trans hq HE6.o.lt)];exact HO6.o q hq);obtain⟨τ7,hτ7⟩:=zG (tauM τ6 w6.heap.size w7.heap.size 7);rw[hτ7]at HI7 HT7 HO7;obtain⟨B8,h8,h8t⟩:=HI7.o.ses;have H8:=zh h8;have H8T:=zh h8t;have HC8:=zh (Zpa w7.drew b.ss B8 (n+2+3) (h8.kept ((Kept.refl (fun _=>False) w7).drew) (fun _ _ h=>h)) e.person e.item e.tick HMD.o.2.1 HMD.o.1 HTK5.o (by omega));have HS7:Hid (CnS w7.drew wb 22 w.heap.size (.pointer (some ⟨b.ss,0,none⟩)) e):=zh (Zby HI7.o.blk.drew rfl HE7.o.drew);clear h8 h8t a7 g7 k7 k67 hτ7 HC7 HI6 HE6 HKB6;go_wp2_with fail;refine Zaj ?_;go_wp2_with fail;refine Zaq (fun W=>CnS W wb 22 w.heap.size (.pointer (some ⟨b.ss,0,none⟩)) e) [(0,1),(1,1),(2,1),(3,1),(4,1),(5,1),(6,1),(7,1),(8,1),(9,1),(10,3)] (by kernel_rfl) (by kernel_rfl) HS7.o ?_;simp only[planNL,xq4,xq5]
 repeat (first|(refine Zan _ (by rfl) (fun W hW=>by (obtain⟨x8,x0,x1,x2,x3,x4,x5,x6,x7⟩:=hW;go_simp;try with_reducible rfl)) ?_;simp only[Act.put,xq1,xq2,xq3])|(refine planN_off (by rfl) ?_;simp only[Act.put,xq1,xq2,xq3])|(refine planN_on0 _ (by rfl) (fun W hW=>by (go_simp;try with_reducible rfl)) ?_;simp only[Act.put,xq1,xq2,xq3]))
 refine Zai ?_;go_wp2_with fail;refine HC8.o.mono ?_;rintro e' w8 ⟨rfl,F8,a8,g8,k8⟩;have k78:Kept B8 w7 w8:=((Kept.refl B8 w7).drew).trans k8;have HI8:Hid (WdG w8 wb base c v a last b (tauM τ7 w7.heap.size w8.heap.size 8) (n+2+3+3) es' ad S (thgs es) (rowsW (es++[e]))):=zh (HI7.o.new8 (by omega) H8T.o H8.o.lt a8 g8.new k78);have HKB8:Hid (Kept (fun q=>τ q≠0) w w8):=zh (HKB7.o.trans' k78 (fun i hi hB=>by rw[<-HO7.o i hi,H8T.o i hB];omega));have c23:w8.cell? ⟨wb,23,none⟩=some (.pointer none):=HI8.o.blk.cell 23;have f23:w8.frozen? ⟨wb,23,none⟩=false:=HI8.o.blk.frozen 23;clear a8 g8 k8 k78 HC8 HI7 HKB7;go_wp2_with fail;refine Zaj ?_;go_wp2_with fail;go_end0;have kz:Kept (fun q=>q=wb) w8 (w8.setCell ⟨wb,23,none⟩ (.pointer none)):=Za8;have hwb:τ wb≠0:=by rw[HI1.o.tw];omega
 refine⟨rfl,_,by rw[HTH.o];exact (HI8.o.new1 (a':=a) (last':=last) (HI8.o.blk.set_ 23 _) kz),HKB8.o.trans (kz.mono (fun i _ hi=>by rw[hi];exact hwb)),fun q hq=>by rw[Zat (Nat.lt_of_lt_of_le hq HKB8.o.size),Zat (Nat.lt_trans hq HE7.o.lt)];exact HO7.o q hq⟩
end Go.Proofs.YtnpfaajhgghpgaaGreatDoor
