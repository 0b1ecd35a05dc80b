/- A part of the joined base. -/
import Derived.Test.YthdmpcnnbminlaaGreatDoorV29
set_option linter.unusedVariables false
set_option maxHeartbeats 8000000
set_option maxRecDepth 100000
namespace Go.Proofs.YthdmpcnnbminlaaGreatDoor
open Ct (It St it0 st0 atP takesB catB stepSt rowOf uptoP ofN rowStep)
open Ru (Fz fzX Nd holdsR digW)
end Go.Proofs.YthdmpcnnbminlaaGreatDoor
namespace Go.Proofs.YthdmpcnnbminlaaGreatDoor
open Ct (It St it0 st0 atP takesB catB stepSt rowOf uptoP ofN rowStep)
open Ru (Fz fzX Nd holdsR digW Zd8 Zak)
end Go.Proofs.YthdmpcnnbminlaaGreatDoor
namespace Go.Proofs.YthdmpcnnbminlaaGreatDoor
open Ct (It St it0 st0 atP takesB catB stepSt rowOf uptoP ofN rowStep)
open Ru (Fz fzX Nd holdsR digW Zd8 Zak)
theorem Zcp {α:Type} [DecidableEq α]:∀(l1 l2:List α),l1.Nodup→(∀x∈l1,x∈l2)→l1.length≤l2.length
 | [],_,_,_=>Nat.zero_le _
 | x::l1,l2,hn,hs=>by
  have hp:=List.pairwise_cons.1 hn
  have hx:=hs x (List.mem_cons_self ..)
  have ih:=Zcp l1 (l2.erase x) hp.2 (fun y hy=>(List.mem_erase_of_ne (fun e=>hp.1 y hy e.symm)).2 (hs y (List.mem_cons_of_mem _ hy)))
  rw[List.length_erase_of_mem hx]at ih
  have:0<l2.length:=List.length_pos_of_mem hx
  simp
  omega
end Go.Proofs.YthdmpcnnbminlaaGreatDoor
namespace Go.Proofs.YthdmpcnnbminlaaGreatDoor
open Go.Shelf Go.RowKit Go.Maps
theorem AnewIs.few {fm:Ev→ByteArray} {l E:List Ev} (h:AnewIs fm l E):E.length≤l.length:=by
 classical
 exact Zcp E l (Zep h.sorted) (fun x hx=>h.sub hx)
theorem Zjg {E:List Ev} (h:SortedE E) {k:Nat} {x:Ev} (hx:E[k]? = some x):NextE (E.take k) x:=by
 have h1:SortedE (E.take k++[x]):=by
  rw[←Zbd hx]
  exact List.Pairwise.sublist (List.take_sublist _ _) h
 exact (SortedE.next h1).2
def WorldAt (w:World) (wb base:Nat) (c:Cfg) (E:List Ev):Prop:=∃v a last b τ n,n≤10*E.length∧WdG w wb base c v a last b τ n E E (fgB E) (thgs E) (rowsW E)
def OfMid (wr:World) (wb base:Nat) (c:Cfg) (lo hi k:Nat) (E:List Ev):Prop:=∃v a last b τ n,n≤10*k∧WdG wr wb base c v a last b τ n (E.take k) (E.take k) (fgB (E.take k)) (thgs (E.take k)) (rowsW (E.take k))∧∀q,lo≤q→q<hi→τ q=0
def OfR (w:World) (c:Cfg) (l:List Ev) (x:Ending) (w':World):Prop:=∃wb base E,x = .returned (.tuple #[.pointer (some ⟨wb,0,none⟩),.int .i64 0])∧AnewIs fmtB l E∧WorldAt w' wb base c E∧w.heap.size≤base∧Below w.heap.size w w'
theorem wof_any (c:Cfg) (w:World) (B:Nat) (A:Option Addr) (l:List Ev) (n cp:Nat) (hc:CfgOk c) (hn:l.length=n) (hl:EvsAt w B A l) (hB:B≤w.heap.size) (hb:n≤10000) (hok:∀e∈l,EvOk e) (hg:GlobAt w) (hkn:KnAt w) (htb:Ru.TabAt w) :
  Calls Tryz.prog 18 #[cfgA c,.slice A n cp] w (OfR w c l):=by
 obtain⟨w1,hw1⟩:∃w1,w.alloc (.cells (cfgArr c) 23)=w1:=⟨_,rfl⟩
 have be1:Hid (Blk w1 w.heap.size 23 (cfgArr c)):=zh (by rw[←hw1];exact Blk.new _ _ _)
 have HB1:Hid (Below w.heap.size w w1):=zh (by rw[←hw1];exact (Below.refl _ _).alloc (zr _) _)
 have HNW:=zh (Zpj c w1 hc)
 have HN:=zh hn
 have HL:=zh hl
 have HOK:=zh hok
 have HG:=zh hg
 have HKN:=zh hkn
 have HTB:=zh htb
 have c0:w1.cell? ⟨w.heap.size,0,none⟩=some (.int .i64 c.half):=be1.o.cell 0
 have c1:w1.cell? ⟨w.heap.size,1,none⟩=some (.int .i64 c.width):=be1.o.cell 1
 have c2:w1.cell? ⟨w.heap.size,2,none⟩=some (.int .i64 c.gap):=be1.o.cell 2
 have c3:w1.cell? ⟨w.heap.size,3,none⟩=some (.int .i64 c.span):=be1.o.cell 3
 have c4:w1.cell? ⟨w.heap.size,4,none⟩=some (.int .i64 c.floor):=be1.o.cell 4
 have c5:w1.cell? ⟨w.heap.size,5,none⟩=some (.int .i64 c.crowd):=be1.o.cell 5
 unfold cfgA at HNW ⊢
 unfold cfgArr at hw1
 clear hc hn hl hok hg hkn htb
 go_enter Tryz.func18,Tryz.ntmps18
 go_wp2_with fail
 refine HNW.o.mono ?_
 rintro e w2 ⟨wb,b0,τ0,rfl,h2,hb2⟩
 have HI2:=zh h2
 have HB2:Hid (Below w.heap.size w w2):=zh (HB1.o.trans (hb2.mono HB1.o.size))
 obtain⟨base,hbase⟩:∃base,w1.heap.size=base:=⟨_,rfl⟩
 rw[hbase]at HI2
 have HBS:Hid (w.heap.size≤base):=zh (by rw[←hbase];exact HB1.o.size)
 have HBL:=zh HI2.o.base_le
 clear h2 hb2 hbase hw1 c0 c1 c2 c3 c4 c5 HNW be1
 go_wp2_with fail
 go_loopw [23] (fun i wr=>∃k:Nat,k≤n∧i = .int .i64 k∧Hid (Below w2.heap.size w2 wr)) (fun i _=>n - (intOf i).toNat)
 case atStart=>exact⟨0,Nat.zero_le _,rfl,zh (Below.refl _ _)⟩
 case round=>
  obtain⟨k,hk,rfl,hbw⟩:=hrel
  have hwz:=hbw.o.size
  have hz2:=HB2.o.size
  have HBW:Hid (Below w.heap.size w wr):=zh (HB2.o.trans (hbw.o.mono hz2))
  by_cases hlt:k<n
  ·obtain⟨e,he⟩:∃e,l[k]? = some e:=⟨l[k]'(by rw[HN.o];exact hlt),List.getElem?_eq_getElem _⟩
   have HE:=zh (HOK.o e (List.mem_of_getElem? he))
   obtain⟨g,o,rfl,hgB,hcl⟩:=HL.o.at (by rw[HN.o];omega)
   obtain⟨p0,p1,p2,p3,p4,p5,p6,p7⟩:EvAt wr g (o+k*8) e:=(hcl k e he).keep (fun j=>HBW.o.cell (p:=⟨g,j,none⟩) (by show g<_;omega))
   have hk8:(k:Int)<(n:Int):=by omega
   have hk9:(0:Int)≤(k:Int):=by omega
   obtain⟨w3,hw3⟩:∃w3,wr.alloc (.cells (evArr e) 31)=w3:=⟨_,rfl⟩
   have HX3:Hid (Blk w3 wr.heap.size 31 (evArr e)):=zh (by rw[←hw3];exact Blk.new _ _ _)
   have HB3:Hid (Below w2.heap.size w2 w3):=zh (by rw[←hw3];exact hbw.o.alloc hwz _)
   have HM:=zh (may_any e w3 HE.o.sh (HG.o.keep (HB2.o.trans (HB3.o.mono hz2)) (zr _)))
   rw[HE.o.1]at HM
   unfold evA at HM
   unfold evArr at hw3
   have q0:w3.cell? ⟨wr.heap.size,0,none⟩=some (.string e.src):=HX3.o.cell 0
   have q1:w3.cell? ⟨wr.heap.size,1,none⟩=some (.int .i64 e.num):=HX3.o.cell 1
   have q2:w3.cell? ⟨wr.heap.size,2,none⟩=some (.int .i64 e.tick):=HX3.o.cell 2
   have q3:w3.cell? ⟨wr.heap.size,3,none⟩=some (.int .i64 e.kind):=HX3.o.cell 3
   have q4:w3.cell? ⟨wr.heap.size,4,none⟩=some (.string e.person):=HX3.o.cell 4
   have q5:w3.cell? ⟨wr.heap.size,5,none⟩=some (.string e.item):=HX3.o.cell 5
   have q6:w3.cell? ⟨wr.heap.size,6,none⟩=some (.int .i64 e.value):=HX3.o.cell 6
   have q7:w3.cell? ⟨wr.heap.size,7,none⟩=some (.string e.text):=HX3.o.cell 7
   clear hcl he
   go_wp2_with fail
   refine HM.o.mono ?_
   rintro e' w4 ⟨rfl,hb4⟩
   have HB4:Hid (Below w2.heap.size w2 w4):=zh (HB3.o.trans (hb4.mono HB3.o.size))
   clear hb4 HM hw3 q0 q1 q2 q3 q4 q5 q6 q7 p0 p1 p2 p3 p4 p5 p6 p7
   go_wp2_with fail
   go_roundw
   case rel=>exact⟨k+1,by omega,by go_num,HB4⟩
   case measure=>simp[intOf];omega
  ·obtain rfl:n=k:=by omega
   have HAN:=zh (Zqh wr B A l n cp HN.o (HL.o.below (HBW.o.mono hB)) (by have:=HBW.o.size;omega) hb HOK.o (HG.o.keep HBW.o (zr _)) (HKN.o.keep HBW.o (zr _)) (HTB.o.keep HBW.o))
   clear hlt
   go_wp2_with fail
   refine HAN.o.mono ?_
   rintro e w4 ⟨A4,E,m,rfl,hm,hE,hev,hnil,hown,hb4⟩
   have hmn:m≤n:=by rw[←hm,←HN.o];exact hE.few
   have HM:=zh hm
   have HE:=zh hE
   have HOE:Hid (∀x∈E,EvOk x):=zh (fun x hx=>HOK.o x (hE.sub hx))
   have HB4:Hid (Below w2.heap.size w2 w4):=zh (hbw.o.trans (hb4.mono hwz))
   have HI4:Hid (OfMid w4 wb base c w2.heap.size w4.heap.size 0 E):=zh ⟨_,_,_,b0,τ0,0,zr _,HI2.o.below HB4.o,fun q h1 _=>by
    by_cases hz:τ0 q=0
    ·exact hz
    ·have:=(HI2.o.low q hz).2;omega⟩
   have HEV:=zh hev
   have HBK:Hid (∀ad,A4=some ad→w2.heap.size≤ad.block∧(0<m→ad.block<w4.heap.size)):=zh (fun ad had=>by
    subst had
    refine⟨Nat.le_trans hwz (hown ad.block rfl),fun h0=>?_⟩
    obtain⟨b,off,e1,e2,_⟩:=RowIn.at hev (by omega)
    injection e1 with e1
    rw[e1]
    exact e2)
   have HW4:Hid (Below w.heap.size w w4):=zh (HB2.o.trans (HB4.o.mono hz2))
   have dm:decide ((1048576:Int)<(m:Int))=false:=decide_eq_false (by omega)
   have HZ4:=zh HB4.o.size
   clear hm hE hev hnil hown hb4 HAN hbw HBW HI2
   go_wp2_with fail
   go_loopw [38] (fun i wr=>∃k:Nat,k≤m∧i = .int .i64 k∧Hid (OfMid wr wb base c w2.heap.size w4.heap.size k E)∧Hid (EvsAt wr w4.heap.size A4 E)∧Hid (Below w.heap.size w wr)∧Hid (w4.heap.size≤wr.heap.size)) (fun i _=>m - (intOf i).toNat)
   case atStart=>exact⟨0,Nat.zero_le _,rfl,HI4,HEV,HW4,zh (zr _)⟩
   case round=>
    clear HI4 HEV HW4
    obtain⟨k,hk,rfl,hmid,hev,hbw,hz⟩:=hrel
    have hz':=hz.o
    obtain⟨wq,rfl⟩:∃wq:World,wq=wr:=⟨_,rfl⟩
    by_cases hlt:k<m
    ·obtain⟨v,a,last,b,τ,n',hn',hI,hτ⟩:=hmid.o
     obtain⟨x,hx⟩:∃x,E[k]? = some x:=⟨E[k]'(by rw[HM.o];exact hlt),List.getElem?_eq_getElem _⟩
     have HX:=zh (HOE.o x (List.mem_of_getElem? hx))
     obtain⟨g,o,rfl,hgB,hcl⟩:=hev.o.at (by rw[HM.o];omega)
     obtain⟨p0,p1,p2,p3,p4,p5,p6,p7⟩:EvAt wq g (o+k*8) x:=hcl k x hx
     have hk8:(k:Int)<(m:Int):=by omega
     have hk9:(0:Int)≤(k:Int):=by omega
     have HTK:Hid (E.take (k+1)=E.take k++[x]):=zh (Zbd hx)
     have HNX:=zh (Zjg HE.o.sorted hx)
     have HT:=zh hτ
     obtain⟨w5,hw5⟩:∃w5,wq.alloc (.cells (evArr x) 31)=w5:=⟨_,rfl⟩
     have HX5:Hid (Blk w5 wq.heap.size 31 (evArr x)):=zh (by rw[←hw5];exact Blk.new _ _ _)
     have k5:Below wq.heap.size wq w5:=by rw[←hw5];exact (Below.refl _ _).alloc (zr _) _
     have HI5:=zh (hI.below k5)
     have HB5:Hid (Below w.heap.size w w5):=zh (hbw.o.trans (k5.mono hbw.o.size))
     have HEV5:Hid (EvsAt w5 w4.heap.size (some ⟨g,o,none⟩) E):=zh (Zgk hev.o (below_kept k5 (zr _):Kept (fun _=>False) wq w5) hz' (fun _ _ h=>h))
     have HTB5:Hid (τ wq.heap.size=0):=zh (by
      by_cases h0:τ wq.heap.size=0
      ·exact h0
      ·have:=(hI.low _ h0).2;omega)
     have HZ5:Hid (wq.heap.size<w5.heap.size):=zh (by rw[←hw5];simp)
     have hbg:2<base:=by have:=HG.o.1;have:=HBS.o;omega
     have HP:=zh (Zp9 w5 wb base c v a last b τ n' (fgB (E.take k)) (E.take k) x HI5.o HNX.o HX.o (fun y hy=>HOE.o y ((List.take_sublist _ _).subset hy)) (by rw[List.length_take];omega) (by omega) (HG.o.keep HB5.o (zr _)) hbg)
     unfold evA at HP
     unfold evArr at hw5
     have q0:w5.cell? ⟨wq.heap.size,0,none⟩=some (.string x.src):=HX5.o.cell 0
     have q1:w5.cell? ⟨wq.heap.size,1,none⟩=some (.int .i64 x.num):=HX5.o.cell 1
     have q2:w5.cell? ⟨wq.heap.size,2,none⟩=some (.int .i64 x.tick):=HX5.o.cell 2
     have q3:w5.cell? ⟨wq.heap.size,3,none⟩=some (.int .i64 x.kind):=HX5.o.cell 3
     have q4:w5.cell? ⟨wq.heap.size,4,none⟩=some (.string x.person):=HX5.o.cell 4
     have q5:w5.cell? ⟨wq.heap.size,5,none⟩=some (.string x.item):=HX5.o.cell 5
     have q6:w5.cell? ⟨wq.heap.size,6,none⟩=some (.int .i64 x.value):=HX5.o.cell 6
     have q7:w5.cell? ⟨wq.heap.size,7,none⟩=some (.string x.text):=HX5.o.cell 7
     have HLOW:Hid (∀i,τ i≠0→base≤i):=zh (fun i hi=>(hI.low i hi).1)
     clear hcl hx hI hτ k5 hmid hev
     go_wp2_with fail
     refine HP.o.mono ?_
     rintro e' w6 ⟨rfl,v6,b6,τ6,h6,k6,o6⟩
     have H6:=zh h6
     have K6:=zh k6
     have HX6:Hid (Blk w6 wq.heap.size 31 (evArr x)):=zh (HX5.o.kept k6 (fun h=>h HTB5.o))
     have hgz:τ g=0:=HT.o g (HBK.o _ rfl).1 ((HBK.o _ rfl).2 (by omega))
     have HEV6:Hid (EvsAt w6 w4.heap.size (some ⟨g,o,none⟩) E):=zh (Zgk HEV5.o k6 (by have:=HZ5.o;omega) (fun ad had h=>by cases had;exact h hgz))
     have HB6:Hid (Below w.heap.size w w6):=zh (HB5.o.trans (k6.toBelow (fun i hi=>Nat.le_trans HBS.o (HLOW.o i hi)) HB5.o.size))
     have HZ6:Hid (w4.heap.size≤w6.heap.size):=zh (by have:=HZ5.o;have:=k6.size;omega)
     have HT6:Hid (∀q,w2.heap.size≤q→q<w4.heap.size→τ6 q=0):=zh (fun q h1 h2=>by rw[o6 q (by have:=HZ5.o;omega)];exact HT.o q h1 h2)
     have y3:w6.cell? ⟨wq.heap.size,3,none⟩=some (.int .i64 x.kind):=HX6.o.cell 3
     clear h6 k6 o6 HP hw5 q0 q1 q2 q3 q4 q5 q6 q7 p0 p1 p2 p3 p4 p5 p6 p7 hgz HEV5 HB5 HI5 HX5
     by_cases hkd:x.kind=14
     rotate_left
     ·have z14:(x.kind == 14)=false:=by simp[hkd]
      have HFG:Hid (fgB (E.take k++[x])=fgB (E.take k)):=zh (Ztt hkd)
      clear hkd
      go_wp2_with fail
      go_roundw
      case rel=>exact⟨k+1,by omega,by go_num,zh ⟨v6,true,x,b6,τ6,n'+9,by omega,by rw[HTK.o,HFG.o];exact H6.o,HT6.o⟩,HEV6,HB6,HZ6⟩
      case measure=>simp[intOf];omega
     ·have z14:(x.kind == 14)=true:=by simp[hkd]
      have HFG:Hid (fgB (E.take k++[x])=fun y=>fgB (E.take k) y || decide (y=x.person)):=zh (Zse hkd)
      have HS6:Hid (CnS w6.drew wb 17 wq.heap.size (.map (some b6.fb)) x):=zh (Zby H6.o.blk.drew rfl HX6.o.drew)
      have hpz:x.person.size≤maxLen:=by have:=HX.o.2.2.1;unfold maxLen;omega
      clear hkd
      go_wp2_with fail
      refine Zaq (fun W=>CnS W wb 17 wq.heap.size (.map (some b6.fb)) x) [(0,1),(1,1),(2,1),(3,1),(4,1),(5,1),(6,3)] (by kernel_rfl) (by kernel_rfl) HS6.o ?_
      simp only[planNL,List.getElem?_cons_zero,List.getElem?_cons_succ]
      repeat (first|(refine Zan _ (by rfl) (fun W hW=>by (obtain⟨x8,x0,x1,x2,x3,x4,x5,x6,x7⟩:=hW;go_simp;try with_reducible rfl)) ?_;simp only[Act.put,xq1,xq2,xq3])|(refine planN_off (by rfl) ?_;simp only[Act.put,xq1,xq2,xq3])|(refine planN_on0 _ (by rfl) (fun W hW=>by (go_simp;try with_reducible rfl)) ?_;simp only[Act.put,xq1,xq2,xq3]))
      refine Zai ?_
      go_wp2_with (first
       | (at_mapUpdate;refine Zag _ rfl _ _ _ 105 rfl 9 4 (string_keyed Tryz.underlying9) Tryz.underlying105 okBool b6.fb (n'+9) _ rfl H6.o.fgt.drew (by unfold maxLen;omega) _ (.bool true) _ rfl rfl (WideMaps.keyOf_string_mk Tryz.underlying9 hpz) rfl ?_;intro w7 hm7 hg7 hs7))
      have k67:Kept (fun q=>q=b6.fb) w6 w7:=((Kept.refl (fun q=>q=b6.fb) w6).drew).grown hg7 (fun j hj=>Or.inl (by cases hj;rfl))
      have hfb:=H6.o.low b6.fb (by rw[H6.o.tf];omega)
      have HI7:Hid (WdG w7 wb base c v6 true x b6 (tauM τ6 w6.heap.size w7.heap.size 3) (n'+9+1) (E.take k++[x]) (E.take k++[x]) (fgB (E.take k++[x])) (thgs (E.take k++[x])) (rowsW (E.take k++[x]))):=zh (H6.o.new3 (by rw[HFG.o];exact hm7.congr (Zgr _ _)) k67)
      have HT7:Hid (∀q,w2.heap.size≤q→q<w4.heap.size→tauM τ6 w6.heap.size w7.heap.size 3 q=0):=zh (fun q h1 h2=>by rw[Zat (by have:=HZ6.o;omega)];exact HT6.o q h1 h2)
      have HEV7:Hid (EvsAt w7 w4.heap.size (some ⟨g,o,none⟩) E):=zh (Zgk HEV6.o k67 HZ6.o (fun ad had h=>by
       cases had
       have h1:=HT6.o g (HBK.o _ rfl).1 ((HBK.o _ rfl).2 (by omega))
       rw[show g=b6.fb from h,H6.o.tf]at h1
       omega))
      have HB7:Hid (Below w.heap.size w w7):=zh (HB6.o.trans (k67.toBelow (fun i hi=>by rw[hi];exact Nat.le_trans HBS.o hfb.1) HB6.o.size))
      have HZ7:Hid (w4.heap.size≤w7.heap.size):=zh (Nat.le_trans HZ6.o k67.size)
      clear hm7 hg7 hs7 k67
      go_wp2_with fail
      refine Zaj ?_
      go_wp2_with fail
      go_roundw
      case rel=>exact⟨k+1,by omega,by go_num,zh ⟨v6,true,x,b6,_,n'+9+1,by omega,by rw[HTK.o];exact HI7.o,HT7.o⟩,HEV7,HB7,HZ7⟩
      case measure=>simp[intOf];omega
    ·obtain rfl:m=k:=by omega
     have hta:E.take m=E:=by rw[←HM.o,List.take_length]
     have HTA:=zh hta
     clear hta
     go_wp2_with fail
     go_ret2
     obtain⟨v,a,last,b,τ,n',hn',hI,_⟩:=hmid.o
     rw[HTA.o]at hI
     exact⟨wb,base,E,rfl,HE.o,⟨v,a,last,b,τ,n',by rw[HM.o];exact hn',hI⟩,HBS.o,hbw.o⟩
end Go.Proofs.YthdmpcnnbminlaaGreatDoor
namespace Go.Proofs.YthdmpcnnbminlaaGreatDoor
open Go.Shelf Go.RowKit Go.Maps
open Ru (Fz fzA FAC Zed)
theorem Zc7 {fn:Func} {t:Tmp} {ty:TypeId} {v:Value} {rb:Nat} {tmps:Array Value} {w:World} (h:fn.results=#[.cell t ty]) (hp:tmps.getD t undef = .pointer (some ⟨rb,0,none⟩)) (hl:(loadVar ty ⟨rb,0,none⟩).run Tryz.prog w = .ok v w) :
  (results fn tmps).run Tryz.prog w = .ok v w:=by
 have hp':tmps[t]?.getD undef = .pointer (some ⟨rb,0,none⟩):=by simpa using hp
 simp[results,h,hp',asAddr,hl]
structure WrAt (w:World) (wb ct cr:Nat) (c:Cfg) (E:List Ev):Prop where
 lt:wb<w.heap.size
 c0:w.cell? ⟨wb,0,none⟩=some (.int .i64 c.half)
 c1:w.cell? ⟨wb,1,none⟩=some (.int .i64 c.width)
 c2:w.cell? ⟨wb,2,none⟩=some (.int .i64 c.gap)
 c3:w.cell? ⟨wb,3,none⟩=some (.int .i64 c.span)
 c4:w.cell? ⟨wb,4,none⟩=some (.int .i64 c.floor)
 c5:w.cell? ⟨wb,5,none⟩=some (.int .i64 c.crowd)
 c18:w.cell? ⟨wb,18,none⟩=some (.pointer (some ⟨ct,0,none⟩))
 c19:w.cell? ⟨wb,19,none⟩=some (.pointer (some ⟨cr,0,none⟩))
 cat:∃F,Ct.CatAt w ct F (thgs E)
 crw:∃U,CrAt w cr (halfP c.half) U (rowsW E)
 row:∃A cp,w.cell? ⟨wb,6,none⟩=some (.slice A E.length cp)∧EvsAt w w.heap.size A E∧(A=none→cp=0)
theorem WorldAt.read {w:World} {wb base:Nat} {c:Cfg} {E:List Ev} (h:WorldAt w wb base c E):∃ct cr,WrAt w wb ct cr c E:=by
 obtain⟨v,a,last,b,τ,n,_,h⟩:=h
 obtain⟨A,cp,hv⟩:=own_shape h.row
 subst hv
 obtain⟨F,hF,_⟩:=h.cat
 obtain⟨U,hU,_⟩:=h.crw
 refine⟨b.ct,b.cr,h.blk.lt,h.blk.cell 0,h.blk.cell 1,h.blk.cell 2,h.blk.cell 3,h.blk.cell 4,h.blk.cell 5,h.blk.cell 18,h.blk.cell 19,⟨F,hF⟩,⟨U,hU⟩,A,cp,h.blk.cell 6,RowIn.of_own h.row,fun hA=>?_⟩
 subst hA
 rcases h.row.2 with ⟨h1,_⟩|⟨g,cap,cur,h1,_⟩
 ·injection h1
 ·cases h1
theorem WrAt.below {w w':World} {wb ct cr:Nat} {c:Cfg} {E:List Ev} (h:WrAt w wb ct cr c E) (k:Below w.heap.size w w'):WrAt w' wb ct cr c E:=by
 have hc:∀i,w'.cell? ⟨wb,i,none⟩=w.cell? ⟨wb,i,none⟩:=fun i=>k.cell (p:=⟨wb,i,none⟩) h.lt
 obtain⟨F,hF⟩:=h.cat
 obtain⟨U,hU⟩:=h.crw
 obtain⟨A,cp,h1,h2,h3⟩:=h.row
 exact⟨Nat.lt_of_lt_of_le h.lt k.size,(hc 0).trans h.c0,(hc 1).trans h.c1,(hc 2).trans h.c2,(hc 3).trans h.c3,(hc 4).trans h.c4,(hc 5).trans h.c5,(hc 18).trans h.c18,(hc 19).trans h.c19,⟨F,hF.below k⟩,⟨U,hU.below k⟩,A,cp,(hc 6).trans h1,(h2.below k).more k.size,h3⟩
section
variable {w : World} {wb ct cr : Nat} {c : Cfg} {E : List Ev}
theorem Zcy (h:WrAt w wb ct cr c E):Calls Tryz.prog 30 #[.pointer (some ⟨wb,0,none⟩)] w fun e w'=>e = .returned (.pointer (some ⟨ct,0,none⟩))∧w=w':=by
 have c18:=h.c18
 clear h
 go_enter Tryz.func30,Tryz.ntmps30
 go_wp2_with fail
 go_ret
 exact⟨rfl,rfl⟩
theorem Zbt (h:WrAt w wb ct cr c E):Calls Tryz.prog 33 #[.pointer (some ⟨wb,0,none⟩)] w fun e w'=>e = .returned (.pointer (some ⟨cr,0,none⟩))∧w=w':=by
 have c19:=h.c19
 clear h
 go_enter Tryz.func33,Tryz.ntmps33
 go_wp2_with fail
 go_ret
 exact⟨rfl,rfl⟩
theorem Zqi {w:World} {p:Nat} {c:Cfg} (h:Blk w p 23 (cfgArr c)):(loadVar 23 ⟨p,0,none⟩).run Tryz.prog w = .ok (cfgA c) w:=by
 have c0:=h.cell 0;have c1:=h.cell 1;have c2:=h.cell 2;have c3:=h.cell 3;have c4:=h.cell 4;have c5:=h.cell 5
 simp[cfgArr]at c0 c1 c2 c3 c4 c5
 unfold cfgA loadVar
 go_simp
theorem Zqj:(Tryz.prog.info? 23).map (·.size)=some 6:=by kernel_rfl
theorem Zc8 (h:WrAt w wb ct cr c E):Calls Tryz.prog 67 #[.pointer (some ⟨wb,0,none⟩)] w fun e w'=>e = .returned (cfgA c)∧Below w.heap.size w w':=by
 obtain⟨w1,hw1⟩:∃w1,w.alloc (.cells #[.int .i64 0,.int .i64 0,.int .i64 0,.int .i64 0,.int .i64 0,.int .i64 0] 23)=w1:=⟨_,rfl⟩
 have HX1:Hid (Blk w1 w.heap.size 23 #[.int .i64 0,.int .i64 0,.int .i64 0,.int .i64 0,.int .i64 0,.int .i64 0]):=zh (by rw[←hw1];exact Blk.new _ _ _)
 have HB1:Hid (Below w.heap.size w w1):=zh (by rw[←hw1];exact (Below.refl _ _).alloc (zr _) _)
 have h1:=h.below HB1.o
 have c0:=h1.c0
 have c1:=h1.c1
 have c2:=h1.c2
 have c3:=h1.c3
 have c4:=h1.c4
 have c5:=h1.c5
 clear h h1
 go_enter Tryz.func67,Tryz.ntmps67
 go_wp2_with (first
  | (refine Zad _ rfl 23 (.tmp 2) (.tmp 6) rfl 0 #[.int .i64 c.half,.int .i64 c.width,.int .i64 c.gap,.int .i64 c.span,.int .i64 c.floor,.int .i64 c.crowd] rfl rfl HX1.o (by show 0+6≤6;omega) Zqj (by simp[Value.oneCell']) ?_;intro w2 hb2 hk2 hs2)
  | fail)
 (try simp only[Exit.inBlock,Exit.then])
 have hx:Blk w2 w.heap.size 23 (cfgArr c):=hb2
 refine bodyPost_ret (Zc7 (rb:=w.heap.size) rfl rfl (Zqi hx)) rfl ?_
 exact⟨rfl,HB1.o.trans (hk2.toBelow (fun i hi=>by rw[hi];exact zr _) HB1.o.size)⟩
end
end Go.Proofs.YthdmpcnnbminlaaGreatDoor
