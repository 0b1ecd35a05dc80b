/- A part of the joined base. -/
import Derived.Test.YtnpfaajhgghpgaaGreatDoorU27
set_option linter.unusedVariables false
set_option maxHeartbeats 8000000
set_option maxRecDepth 100000
namespace Go.Proofs.YtnpfaajhgghpgaaGreatDoor
open Ct (It St it0 st0 atP takesB catB stepSt rowOf uptoP ofN rowStep)
open Ru (Fz fzX Nd holdsR digW)
end Go.Proofs.YtnpfaajhgghpgaaGreatDoor
namespace Go.Proofs.YtnpfaajhgghpgaaGreatDoor
open Ct (It St it0 st0 atP takesB catB stepSt rowOf uptoP ofN rowStep)
open Ru (Fz fzX Nd holdsR digW Zd8 Zak)
end Go.Proofs.YtnpfaajhgghpgaaGreatDoor
namespace Go.Proofs.YtnpfaajhgghpgaaGreatDoor
open Ct (It St it0 st0 atP takesB catB stepSt rowOf uptoP ofN rowStep)
open Ru (Fz fzX Nd holdsR digW Zd8 Zak)
theorem Zcp {α:Type}[DecidableEq α]:∀(l1 l2:List α),l1.Nodup->(∀x∈l1,x∈l2)->l1.length<=l2.length
 | [],_,_,_=>Nat.zero_le _
 | x::l1,l2,hn,hs=>by
  have hp:=List.pairwise_cons.1 hn;have hx:=hs x (List.mem_cons_self ..);have ih:=Zcp l1 (l2.erase x) hp.2 (fun y hy=>(List.mem_erase_of_ne (fun e=>hp.1 y hy e.symm)).2 (hs y (List.mem_cons_of_mem _ hy)));rw[List.length_erase_of_mem hx]at ih;have:0<l2.length:=List.length_pos_of_mem hx;simp;omega
end Go.Proofs.YtnpfaajhgghpgaaGreatDoor
namespace Go.Proofs.YtnpfaajhgghpgaaGreatDoor
open Go.Shelf Go.RowKit Go.Maps
theorem AnewIs.few {fm:Ev->ByteArray}{l E:List Ev}(h:AnewIs fm l E):E.length<=l.length:=by
 classical
 exact Zcp E l (Zep h.sorted) (fun x hx=>h.sub hx)
theorem Zjg {E:List Ev}(h:SortedE E){k:Nat}{x:Ev}(hx:E[k]? = some x):NextE (E.take k) x:=by
 have h1:SortedE (E.take k++[x]):=by
  rw[<-Zbd hx];exact List.Pairwise.sublist (List.take_sublist _ _) h
 exact (SortedE.next h1).2
def WorldAt (w:World)(wb base:Nat)(c:Cfg)(E:List Ev):Prop:=∃v a last b τ n,n<=10*E.length/\WdG w wb base c v a last b τ n E E (fgB E) (thgs E) (rowsW E)
def OfMid (wr:World)(wb base:Nat)(c:Cfg)(lo hi k:Nat)(E:List Ev):Prop:=∃v a last b τ n,n<=10*k/\WdG wr wb base c v a last b τ n (E.take k) (E.take k) (fgB (E.take k)) (thgs (E.take k)) (rowsW (E.take k))/\∀q,lo<=q->q<hi->τ q=0
def OfR (w:World)(c:Cfg)(l:List Ev)(x:Ending)(w':World):Prop:=∃wb base E,x = .returned (.tuple #[.pointer (some ⟨wb,0,none⟩),.int .i64 0])/\AnewIs fmtB l E/\WorldAt w' wb base c E/\w.heap.size<=base/\Below w.heap.size w w'
theorem wof_any (c:Cfg)(w:World)(B:Nat)(A:Option Addr)(l:List Ev)(n cp:Nat)(hc:CfgOk c)(hn:l.length=n)(hl:EvsAt w B A l)(hB:B<=w.heap.size)(hb:n<=10000)(hok:∀e∈l,EvOk e)(hg:GlobAt w)(hkn:KnAt w)(htb:Ru.TabAt w) :
  Calls Tryz.prog 8 #[cfgA c,.slice A n cp] w (OfR w c l):=by
 obtain⟨w1,hw1⟩:=zG (w.alloc (.cells (cfgArr c) 25));have be1:Hid (Blk w1 w.heap.size 25 (cfgArr c)):=zB hw1;have HB1:=zA hw1;have HNW:=zh (Zpj c w1 hc);have HN:=zh hn;have HL:=zh hl;have HOK:=zh hok;have HG:=zh hg;have HKN:=zh hkn;have HTB:=zh htb;obtain⟨c0,c1,c2,c3,c4,c5⟩:=zC6 be1.o;unfold cfgA at HNW ⊢;unfold cfgArr at hw1;clear hc hn hl hok hg hkn htb;go_enter Tryz.func8,Tryz.ntmps8;go_wp2_with fail;refine HNW.o.mono ?_;rintro e w2 ⟨wb,b0,τ0,rfl,h2,hb2⟩;have HI2:=zh h2;have HB2:=zT HB1 hb2;obtain⟨base,hbase⟩:=zG (w1.heap.size);rw[hbase]at HI2;have HBS:Hid (w.heap.size<=base):=zh (by rw[<-hbase];exact HB1.o.size);have HBL:=zh HI2.o.base_le;clear h2 hb2 hbase hw1 c0 c1 c2 c3 c4 c5 HNW be1;go_wp2_with fail;go_loopw [23] (fun i wr=>∃k:Nat,k<=n/\i = .int .i64 k/\Hid (Below w2.heap.size w2 wr)) (fun i _=>n - (intOf i).toNat)
 case atStart=>exact⟨0,Nat.zero_le _,rfl,zh (Below.refl _ _)⟩
 case round=>
  obtain⟨k,hk,rfl,hbw⟩:=hrel;have hwz:=hbw.o.size;have hz2:=HB2.o.size;have HBW:Hid (Below w.heap.size w wr):=zh (HB2.o.trans (hbw.o.mono hz2));by_cases hlt:k<n
  ·obtain⟨e,he⟩:∃e,l[k]? = some e:=⟨l[k]'(by rw[HN.o];exact hlt),List.getElem?_eq_getElem _⟩
   have HE:=zh (HOK.o e (List.mem_of_getElem? he));obtain⟨g,o,rfl,hgB,hcl⟩:=HL.o.at (by rw[HN.o];omega);obtain⟨p0,p1,p2,p3,p4,p5,p6,p7⟩:EvAt wr g (o+k*8) e:=(hcl k e he).keep (fun j=>HBW.o.cell (p:=⟨g,j,none⟩) (by show g<_;omega));have hk8:(k:Int)<(n:Int):=by omega
   have hk9:(0:Int)<=(k:Int):=by omega
   obtain⟨w3,hw3⟩:=zG (wr.alloc (.cells (evArr e) 59));have HX3:Hid (Blk w3 wr.heap.size 59 (evArr e)):=zB hw3;have HB3:Hid (Below w2.heap.size w2 w3):=zh (by rw[<-hw3];exact hbw.o.alloc hwz _);have HM:=zh (may_any e w3 HE.o.sh (HG.o.keep (HB2.o.trans (HB3.o.mono hz2)) (zr _)));rw[HE.o.1]at HM;unfold evA at HM;unfold evArr at hw3;obtain⟨q0,q1,q2,q3,q4,q5,q6,q7⟩:=zC8 HX3.o;clear hcl he;go_wp2_with fail;refine HM.o.mono ?_;rintro e' w4 ⟨rfl,hb4⟩;have HB4:=zT HB3 hb4;clear hb4 HM hw3 q0 q1 q2 q3 q4 q5 q6 q7 p0 p1 p2 p3 p4 p5 p6 p7;go_wp2_with fail;go_roundw
   case rel=>exact⟨k+1,by omega,by go_num,HB4⟩
   case measure=>simp[intOf];omega
  ·obtain rfl:n=k:=by omega
   have HAN:=zh (Zqh wr B A l n cp HN.o (HL.o.below (HBW.o.mono hB)) (by have:=HBW.o.size;omega) hb HOK.o (HG.o.keep HBW.o (zr _)) (HKN.o.keep HBW.o (zr _)) (HTB.o.keep HBW.o));clear hlt;go_wp2_with fail;refine HAN.o.mono ?_;rintro e w4 ⟨A4,E,m,rfl,hm,hE,hev,hnil,hown,hb4⟩;have hmn:m<=n:=by rw[<-hm,<-HN.o];exact hE.few
   have HM:=zh hm;have HE:=zh hE;have HOE:Hid (∀x∈E,EvOk x):=zh (fun x hx=>HOK.o x (hE.sub hx));have HB4:Hid (Below w2.heap.size w2 w4):=zh (hbw.o.trans (hb4.mono hwz))
   have HI4:Hid (OfMid w4 wb base c w2.heap.size w4.heap.size 0 E):=zh ⟨_,_,_,b0,τ0,0,zr _,HI2.o.below HB4.o,fun q h1 _=>by
    by_cases hz:τ0 q=0
    ·exact hz
    ·have:=(HI2.o.low q hz).2;omega⟩
   have HEV:=zh hev
   have HBK:Hid (∀ad,A4=some ad->w2.heap.size<=ad.block/\(0<m->ad.block<w4.heap.size)):=zh (fun ad had=>by
    subst had;refine⟨Nat.le_trans hwz (hown ad.block rfl),fun h0=>?_⟩;obtain⟨b,off,e1,e2,_⟩:=RowIn.at hev (by omega);injection e1 with e1;rw[e1];exact e2)
   have HW4:Hid (Below w.heap.size w w4):=zh (HB2.o.trans (HB4.o.mono hz2));have dm:decide ((1048576:Int)<(m:Int))=false:=decide_eq_false (by omega);have HZ4:=zh HB4.o.size;clear hm hE hev hnil hown hb4 HAN hbw HBW HI2;go_wp2_with fail;go_loopw [38] (fun i wr=>∃k:Nat,k<=m/\i = .int .i64 k/\Hid (OfMid wr wb base c w2.heap.size w4.heap.size k E)/\Hid (EvsAt wr w4.heap.size A4 E)/\Hid (Below w.heap.size w wr)/\Hid (w4.heap.size<=wr.heap.size)) (fun i _=>m - (intOf i).toNat)
   case atStart=>exact⟨0,Nat.zero_le _,rfl,HI4,HEV,HW4,zh (zr _)⟩
   case round=>
    clear HI4 HEV HW4;obtain⟨k,hk,rfl,hmid,hev,hbw,hz⟩:=hrel;have hz':=hz.o;obtain⟨wq,rfl⟩:=zH wr;by_cases hlt:k<m
    ·obtain⟨v,a,last,b,τ,n',hn',hI,hτ⟩:=hmid.o;obtain⟨x,hx⟩:∃x,E[k]? = some x:=⟨E[k]'(by rw[HM.o];exact hlt),List.getElem?_eq_getElem _⟩
     have HX:=zh (HOE.o x (List.mem_of_getElem? hx));obtain⟨g,o,rfl,hgB,hcl⟩:=hev.o.at (by rw[HM.o];omega);obtain⟨p0,p1,p2,p3,p4,p5,p6,p7⟩:EvAt wq g (o+k*8) x:=hcl k x hx;have hk8:(k:Int)<(m:Int):=by omega
     have hk9:(0:Int)<=(k:Int):=by omega
     have HTK:Hid (E.take (k+1)=E.take k++[x]):=zh (Zbd hx);have HNX:=zh (Zjg HE.o.sorted hx);have HT:=zh hτ;obtain⟨w5,hw5⟩:=zG (wq.alloc (.cells (evArr x) 59));have HX5:Hid (Blk w5 wq.heap.size 59 (evArr x)):=zB hw5;have k5:Below wq.heap.size wq w5:=by rw[<-hw5];exact (Below.refl _ _).alloc (zr _) _
     have HI5:=zh (hI.below k5);have HB5:=zT hbw k5;have HEV5:Hid (EvsAt w5 w4.heap.size (some ⟨g,o,none⟩) E):=zh (Zgk hev.o (below_kept k5 (zr _):Kept (fun _=>False) wq w5) hz' (fun _ _ h=>h))
     have HTB5:Hid (τ wq.heap.size=0):=zh (by
      by_cases h0:τ wq.heap.size=0
      ·exact h0
      ·have:=(hI.low _ h0).2;omega)
     have HZ5:Hid (wq.heap.size<w5.heap.size):=zh (by rw[<-hw5];simp);have hbg:2<base:=by have:=HG.o.1;have:=HBS.o;omega
     have HP:=zh (Zp9 w5 wb base c v a last b τ n' (fgB (E.take k)) (E.take k) x HI5.o HNX.o HX.o (fun y hy=>HOE.o y ((List.take_sublist _ _).subset hy)) (by rw[List.length_take];omega) (by omega) (HG.o.keep HB5.o (zr _)) hbg);unfold evA at HP;unfold evArr at hw5;obtain⟨q0,q1,q2,q3,q4,q5,q6,q7⟩:=zC8 HX5.o;have HLOW:Hid (∀i,τ i≠0->base<=i):=zh (fun i hi=>(hI.low i hi).1);clear hcl hx hI hτ k5 hmid hev;go_wp2_with fail;refine HP.o.mono ?_;rintro e' w6 ⟨rfl,v6,b6,τ6,h6,k6,o6⟩;have H6:=zh h6;have K6:=zh k6;have HX6:Hid (Blk w6 wq.heap.size 59 (evArr x)):=zh (HX5.o.kept k6 (fun h=>h HTB5.o));have hgz:τ g=0:=HT.o g (HBK.o _ rfl).1 ((HBK.o _ rfl).2 (by omega));have HEV6:Hid (EvsAt w6 w4.heap.size (some ⟨g,o,none⟩) E):=zh (Zgk HEV5.o k6 (by have:=HZ5.o;omega) (fun ad had h=>by cases had;exact h hgz));have HB6:Hid (Below w.heap.size w w6):=zh (HB5.o.trans (k6.toBelow (fun i hi=>Nat.le_trans HBS.o (HLOW.o i hi)) HB5.o.size));have HZ6:Hid (w4.heap.size<=w6.heap.size):=zh (by have:=HZ5.o;have:=k6.size;omega);have HT6:Hid (∀q,w2.heap.size<=q->q<w4.heap.size->τ6 q=0):=zh (fun q h1 h2=>by rw[o6 q (by have:=HZ5.o;omega)];exact HT.o q h1 h2);have y3:w6.cell? ⟨wq.heap.size,3,none⟩=some (.int .i64 x.kind):=HX6.o.cell 3;clear h6 k6 o6 HP hw5 q0 q1 q2 q3 q4 q5 q6 q7 p0 p1 p2 p3 p4 p5 p6 p7 hgz HEV5 HB5 HI5 HX5;by_cases hkd:x.kind=14
     rotate_left
     ·have z14:(x.kind == 14)=false:=by simp[hkd]
      have HFG:Hid (fgB (E.take k++[x])=fgB (E.take k)):=zh (Ztt hkd);clear hkd;go_wp2_with fail;go_roundw
      case rel=>exact⟨k+1,by omega,by go_num,zh ⟨v6,true,x,b6,τ6,n'+9,by omega,by rw[HTK.o,HFG.o];exact H6.o,HT6.o⟩,HEV6,HB6,HZ6⟩
      case measure=>simp[intOf];omega
     ·have z14:(x.kind == 14)=true:=by simp[hkd]
      have HFG:Hid (fgB (E.take k++[x])=fun y=>fgB (E.take k) y || decide (y=x.person)):=zh (Zse hkd);have HS6:Hid (CnS w6.drew wb 17 wq.heap.size (.map (some b6.fb)) x):=zh (Zby H6.o.blk.drew rfl HX6.o.drew);have hpz:x.person.size<=maxLen:=by have:=HX.o.2.2.1;unfold maxLen;omega
      clear hkd;go_wp2_with fail;refine Zaq (fun W=>CnS W wb 17 wq.heap.size (.map (some b6.fb)) x) [(0,1),(1,1),(2,1),(3,1),(4,1),(5,1),(6,3)] (by kernel_rfl) (by kernel_rfl) HS6.o ?_;simp only[planNL,xq4,xq5]
      repeat (first|(refine Zan _ (by rfl) (fun W hW=>by (obtain⟨x8,x0,x1,x2,x3,x4,x5,x6,x7⟩:=hW;go_simp;try with_reducible rfl)) ?_;simp only[Act.put,xq1,xq2,xq3])|(refine planN_off (by rfl) ?_;simp only[Act.put,xq1,xq2,xq3])|(refine planN_on0 _ (by rfl) (fun W hW=>by (go_simp;try with_reducible rfl)) ?_;simp only[Act.put,xq1,xq2,xq3]))
      refine Zai ?_
      go_wp2_with (first
       | (at_mapUpdate;refine Zag _ rfl _ _ _ 67 rfl 9 4 (string_keyed Tryz.underlying9) Tryz.underlying67 okBool b6.fb (n'+9) _ rfl H6.o.fgt.drew (by unfold maxLen;omega) _ (.bool true) _ rfl rfl (WideMaps.keyOf_string_mk Tryz.underlying9 hpz) rfl ?_;intro w7 hm7 hg7 hs7))
      have k67:Kept (fun q=>q=b6.fb) w6 w7:=((Kept.refl (fun q=>q=b6.fb) w6).drew).grown hg7 (fun j hj=>Or.inl (by cases hj;rfl));have hfb:=H6.o.low b6.fb (by rw[H6.o.tf];omega);have HI7:Hid (WdG w7 wb base c v6 true x b6 (tauM τ6 w6.heap.size w7.heap.size 3) (n'+9+1) (E.take k++[x]) (E.take k++[x]) (fgB (E.take k++[x])) (thgs (E.take k++[x])) (rowsW (E.take k++[x]))):=zh (H6.o.new3 (by rw[HFG.o];exact hm7.congr (Zgr _ _)) k67);have HT7:Hid (∀q,w2.heap.size<=q->q<w4.heap.size->tauM τ6 w6.heap.size w7.heap.size 3 q=0):=zh (fun q h1 h2=>by rw[Zat (by have:=HZ6.o;omega)];exact HT6.o q h1 h2)
      have HEV7:Hid (EvsAt w7 w4.heap.size (some ⟨g,o,none⟩) E):=zh (Zgk HEV6.o k67 HZ6.o (fun ad had h=>by
       cases had;have h1:=HT6.o g (HBK.o _ rfl).1 ((HBK.o _ rfl).2 (by omega));rw[show g=b6.fb from h,H6.o.tf]at h1;omega))
      have HB7:Hid (Below w.heap.size w w7):=zh (HB6.o.trans (k67.toBelow (fun i hi=>by rw[hi];exact Nat.le_trans HBS.o hfb.1) HB6.o.size));have HZ7:Hid (w4.heap.size<=w7.heap.size):=zh (Nat.le_trans HZ6.o k67.size);clear hm7 hg7 hs7 k67;go_wp2_with fail;refine Zaj ?_;go_wp2_with fail;go_roundw
      case rel=>exact⟨k+1,by omega,by go_num,zh ⟨v6,true,x,b6,_,n'+9+1,by omega,by rw[HTK.o];exact HI7.o,HT7.o⟩,HEV7,HB7,HZ7⟩
      case measure=>simp[intOf];omega
    ·obtain rfl:m=k:=by omega
     have hta:E.take m=E:=by rw[<-HM.o,List.take_length]
     have HTA:=zh hta;clear hta;go_wp2_with fail;go_ret2;obtain⟨v,a,last,b,τ,n',hn',hI,_⟩:=hmid.o;rw[HTA.o]at hI;exact⟨wb,base,E,rfl,HE.o,⟨v,a,last,b,τ,n',by rw[HM.o];exact hn',hI⟩,HBS.o,hbw.o⟩
end Go.Proofs.YtnpfaajhgghpgaaGreatDoor
namespace Go.Proofs.YtnpfaajhgghpgaaGreatDoor
open Go.Shelf Go.RowKit Go.Maps
open Ru (Fz fzA FAC Zed)
theorem Zc7 {fn:Func}{t:Tmp}{ty:TypeId}{v:Value}{rb:Nat}{tmps:Array Value}{w:World}(h:fn.results=#[.cell t ty])(hp:tmps.getD t undef = .pointer (some ⟨rb,0,none⟩))(hl:(loadVar ty ⟨rb,0,none⟩).run Tryz.prog w = .ok v w) :
  (results fn tmps).run Tryz.prog w = .ok v w:=by
 have hp':tmps[t]?.getD undef = .pointer (some ⟨rb,0,none⟩):=by simpa using hp
 simp[results,h,hp',asAddr,hl]
structure WrAt (w:World) (wb ct cr:Nat) (c:Cfg) (E:List Ev):Prop where
 lt:wb<w.heap.size
 c0:w.cell? ⟨wb,0,none⟩=some (.int .i64 c.half)
 c1:w.cell? ⟨wb,1,none⟩=some (.int .i64 c.width)
 c2:w.cell? ⟨wb,2,none⟩=some (.int .i64 c.gap)
 c3:w.cell? ⟨wb,3,none⟩=some (.int .i64 c.span)
 c4:w.cell? ⟨wb,4,none⟩=some (.int .i64 c.floor)
 c5:w.cell? ⟨wb,5,none⟩=some (.int .i64 c.crowd)
 c18:w.cell? ⟨wb,18,none⟩=some (.pointer (some ⟨ct,0,none⟩))
 c19:w.cell? ⟨wb,19,none⟩=some (.pointer (some ⟨cr,0,none⟩))
 cat:∃F,Ct.CatAt w ct F (thgs E)
 crw:∃U,CrAt w cr (halfP c.half) U (rowsW E)
 row:∃A cp,w.cell? ⟨wb,6,none⟩=some (.slice A E.length cp)/\EvsAt w w.heap.size A E/\(A=none->cp=0)
theorem WorldAt.read {w:World}{wb base:Nat}{c:Cfg}{E:List Ev}(h:WorldAt w wb base c E):∃ct cr,WrAt w wb ct cr c E:=by
 obtain⟨v,a,last,b,τ,n,_,h⟩:=h;obtain⟨A,cp,hv⟩:=own_shape h.row;subst hv;obtain⟨F,hF,_⟩:=h.cat;obtain⟨U,hU,_⟩:=h.crw;refine⟨b.ct,b.cr,h.blk.lt,h.blk.cell 0,h.blk.cell 1,h.blk.cell 2,h.blk.cell 3,h.blk.cell 4,h.blk.cell 5,h.blk.cell 18,h.blk.cell 19,⟨F,hF⟩,⟨U,hU⟩,A,cp,h.blk.cell 6,RowIn.of_own h.row,fun hA=>?_⟩;subst hA;rcases h.row.2 with ⟨h1,_⟩|⟨g,cap,cur,h1,_⟩
 ·injection h1
 ·cases h1
theorem WrAt.below {w w':World}{wb ct cr:Nat}{c:Cfg}{E:List Ev}(h:WrAt w wb ct cr c E)(k:Below w.heap.size w w'):WrAt w' wb ct cr c E:=by
 have hc:∀i,w'.cell? ⟨wb,i,none⟩=w.cell? ⟨wb,i,none⟩:=fun i=>k.cell (p:=⟨wb,i,none⟩) h.lt;obtain⟨F,hF⟩:=h.cat;obtain⟨U,hU⟩:=h.crw;obtain⟨A,cp,h1,h2,h3⟩:=h.row;exact⟨Nat.lt_of_lt_of_le h.lt k.size,(hc 0).trans h.c0,(hc 1).trans h.c1,(hc 2).trans h.c2,(hc 3).trans h.c3,(hc 4).trans h.c4,(hc 5).trans h.c5,(hc 18).trans h.c18,(hc 19).trans h.c19,⟨F,hF.below k⟩,⟨U,hU.below k⟩,A,cp,(hc 6).trans h1,(h2.below k).more k.size,h3⟩
section
variable {w : World} {wb ct cr : Nat} {c : Cfg} {E : List Ev}
theorem Zcy (h:WrAt w wb ct cr c E):Calls Tryz.prog 67 #[.pointer (some ⟨wb,0,none⟩)] w fun e w'=>e = .returned (.pointer (some ⟨ct,0,none⟩))/\w=w':=by
 have c18:=h.c18;clear h;go_enter Tryz.func67,Tryz.ntmps67;go_wp2_with fail;go_ret;exact⟨rfl,rfl⟩
theorem Zbt (h:WrAt w wb ct cr c E):Calls Tryz.prog 26 #[.pointer (some ⟨wb,0,none⟩)] w fun e w'=>e = .returned (.pointer (some ⟨cr,0,none⟩))/\w=w':=by
 have c19:=h.c19;clear h;go_enter Tryz.func26,Tryz.ntmps26;go_wp2_with fail;go_ret;exact⟨rfl,rfl⟩
theorem Zqi {w:World}{p:Nat}{c:Cfg}(h:Blk w p 25 (cfgArr c)):(loadVar 25 ⟨p,0,none⟩).run Tryz.prog w = .ok (cfgA c) w:=by
 have c0:=h.cell 0;have c1:=h.cell 1;have c2:=h.cell 2;have c3:=h.cell 3;have c4:=h.cell 4;have c5:=h.cell 5;simp[cfgArr]at c0 c1 c2 c3 c4 c5;unfold cfgA loadVar;go_simp
theorem Zqj:(Tryz.prog.info? 25).map (·.size)=some 6:=by kernel_rfl
theorem Zc8 (h:WrAt w wb ct cr c E):Calls Tryz.prog 23 #[.pointer (some ⟨wb,0,none⟩)] w fun e w'=>e = .returned (cfgA c)/\Below w.heap.size w w':=by
 obtain⟨w1,hw1⟩:=zG (w.alloc (.cells #[.int .i64 0,.int .i64 0,.int .i64 0,.int .i64 0,.int .i64 0,.int .i64 0] 25));have HX1:Hid (Blk w1 w.heap.size 25 #[.int .i64 0,.int .i64 0,.int .i64 0,.int .i64 0,.int .i64 0,.int .i64 0]):=zB hw1;have HB1:=zA hw1;have h1:=h.below HB1.o;have c0:=h1.c0;have c1:=h1.c1;have c2:=h1.c2;have c3:=h1.c3;have c4:=h1.c4;have c5:=h1.c5;clear h h1;go_enter Tryz.func23,Tryz.ntmps23
 go_wp2_with (first
  | (refine Zad _ rfl 25 (.tmp 2) (.tmp 6) rfl 0 #[.int .i64 c.half,.int .i64 c.width,.int .i64 c.gap,.int .i64 c.span,.int .i64 c.floor,.int .i64 c.crowd] rfl rfl HX1.o (by show 0+6<=6;omega) Zqj (by simp[Value.oneCell']) ?_;intro w2 hb2 hk2 hs2)
  | fail)
 (try simp only[Exit.inBlock,Exit.then])
 have hx:Blk w2 w.heap.size 25 (cfgArr c):=hb2;refine bodyPost_ret (Zc7 (rb:=w.heap.size) rfl rfl (Zqi hx)) rfl ?_;exact⟨rfl,HB1.o.trans (hk2.toBelow (fun i hi=>by rw[hi];exact zr _) HB1.o.size)⟩
end
end Go.Proofs.YtnpfaajhgghpgaaGreatDoor
namespace Go.Proofs.YtnpfaajhgghpgaaGreatDoor
open Go.Shelf Go.RowKit Go.Maps
open Ru (Fz fzA FAC Zed)
theorem Zkt:(Tryz.prog.info? 97).map (·.size)=some 12:=by kernel_rfl
theorem Zcq:(Tryz.prog.info? 95).map (·.size)=some 7:=by kernel_rfl
def FactsR (E:List Ev)(p i:ByteArray)(now:Int)(w:World)(e:Ending)(w':World):Prop:=e = .returned (.agg (fzA (fzOf E p i now)))/\Below w.heap.size w w'
theorem Zfg {f:ByteArray->Bool}{ks:List ByteArray}(h:IsNames f ks)(x:ByteArray):memB x ks=f x:=by
 rw[Bool.eq_iff_iff,Zbb];exact h.2 x
theorem Znv (w:World)(wb ct cr:Nat)(c:Cfg)(E:List Ev)(p i:ByteArray)(now:Int)(h:WrAt w wb ct cr c E)(hall:∀e∈E,EvOk e)(hlen:E.length<=1000)(hp:p.size<=300)(hi:i.size<=300)(hnow:InR now) :
  Calls Tryz.prog 25 #[.pointer (some ⟨wb,0,none⟩),.string p,.string i,.int .i64 now] w (FactsR E p i now w):=by
 obtain⟨X,hX⟩:=zG ((Ct.atP (thgs E) i now).getD Ct.it0);obtain⟨ok,hok⟩:=zG ((Ct.atP (thgs E) i now).isSome);obtain⟨fans,hfans⟩:=zG ((fansN (rowsW E) i:Int):Int);obtain⟨done,hdone⟩:=zG (doneB (rowsW E) p i);obtain⟨fol,hfol⟩:=zG (decide (folO (rowsW E) p X.maker=some true));have HZ:Hid (fzOf E p i now=⟨X.name,X.maker,X.tags,X.stock,X.price,X.born,X.listed,now,if ok then now - X.born else 0,fans,ok&&fol,done⟩):=zh (by unfold fzOf;rw[hX,hok,hfans,hdone,hfol])
 have HAGE:Hid (ok=true->IntKind.i64.wrap (now - X.born)=now - X.born):=zh (fun ho=>by
  cases ha:Ct.atP (thgs E) i now with
  | none=>rw[ha]at hok;rw[<-hok]at ho;cases ho
  | some x=>
   rw[ha]at hX;obtain rfl:x=X:=hX;exact Ztx (m:=300) (fun e he=>(hall e he).1) (fun e he=>(hall e he).2) hi ha hnow.2)
 have HOFF:Hid (ok=false->X=Ct.it0):=zh (fun ho=>by
  cases ha:Ct.atP (thgs E) i now with
  | none=>rw[ha]at hX;exact hX.symm
  | some x=>rw[ha]at hok;rw[<-hok]at ho;cases ho)
 have hrl:=Zcs E;have htl:=Zdo E;obtain⟨w1,hw1⟩:=zG (w.alloc (.cells #[.string ⟨#[]⟩,.string ⟨#[]⟩,.string ⟨#[]⟩,.int .i64 0,.int .i64 0,.int .i64 0,.bool false,.int .i64 0,.int .i64 0,.int .i64 0,.bool false,.bool false] 97));have HX1:Hid (Blk w1 w.heap.size 97 #[.string ⟨#[]⟩,.string ⟨#[]⟩,.string ⟨#[]⟩,.int .i64 0,.int .i64 0,.int .i64 0,.bool false,.int .i64 0,.int .i64 0,.int .i64 0,.bool false,.bool false]):=zB hw1;have HB1:=zA hw1;have HR1:=zh (h.below HB1.o);have HC1:=zh (Zbt HR1.o);obtain⟨U,hU⟩:=HR1.o.crw;have HF1:=zh (Zhy cr (halfP c.half) U (rowsW E) i w1 hU (by unfold maxLen;omega));rw[hfans]at HF1;have HIS:=zh (show p.size<=300/\i.size<=300 from ⟨hp,hi⟩);have HD:Hid (∀W,Below w1.heap.size w1 W->Calls Tryz.prog 66 #[.pointer (some ⟨cr,0,none⟩),.string p,.string i] W fun e w'=>e = .returned (.bool done)/\Below W.heap.size W w'):=zh (fun W hb=>by rw[<-hdone];exact Zmx cr (halfP c.half) U (rowsW E) p i W (hU.below hb) (by unfold maxLen;omega) (by unfold maxLen;omega))
 have HAT:Hid (∀W,Below w1.heap.size w1 W->Calls Tryz.prog 68 #[.pointer (some ⟨ct,0,none⟩),.string i,.int .i64 now] W fun e w'=>e = .returned (.tuple #[.agg #[.string X.name,.string X.maker,.string X.tags,.int .i64 X.stock,.int .i64 X.price,.int .i64 X.born,.bool X.listed],.bool ok])/\Below W.heap.size W w'):=zh (fun W hb=>by
  obtain⟨F,hF⟩:=(HR1.o.below hb).cat;have:=Ct.Zj9 ct F (thgs E) i now W hF (by omega) (by omega);unfold Ct.toldP Ct.itA at this;rw[hX,hok]at this;exact this)
 have HFO:Hid (∀W,Below w1.heap.size w1 W->Calls Tryz.prog 69 #[.pointer (some ⟨cr,0,none⟩),.string p] W fun e w'=>∃(A:Option Addr) (c:Nat) (ks:List ByteArray),e = .returned (.slice A ks.length c)/\memB X.maker ks=fol/\RowIn w' w'.heap.size 1 A ks.length (ks.map .string)/\ks.length<=1000/\Below W.heap.size W w'):=zh (fun W hb=>by
  refine (Zi0 cr (halfP c.half) U (rowsW E) p W (hU.below hb) (by unfold maxLen;omega) (by omega)).mono ?_;rintro e w' ⟨A,c,ks,rfl,h1,h2,h3,h4⟩;exact⟨A,c,ks,rfl,by rw[Zfg h1,hfol],RowIn.of_own h2,h3,h4⟩)
 clear h hall hlen hp hi hnow hU hX hok hfans hdone hfol hrl htl;go_enter Tryz.func25,Tryz.ntmps25;go_wp2_with fail;refine HC1.o.mono ?_;rintro e w2 ⟨rfl,rfl⟩;go_wp2_with fail;refine HF1.o.mono ?_;rintro e w2 ⟨rfl,hb2⟩;have HB2:=zh hb2;have HC2:=zh (Zbt (HR1.o.below hb2));clear hb2 HF1 HC1;go_wp2_with fail;refine HC2.o.mono ?_;rintro e w3 ⟨rfl,rfl⟩;have HC:=zh (HD.o w2 HB2.o);go_wp2_with fail;refine HC.o.mono ?_;rintro e w3 ⟨rfl,hb3⟩;have HB3:=zT HB2 hb3;obtain⟨gb,hgb⟩:=zG (w3.heap.size);obtain⟨w4,hw4⟩:=zG (w3.alloc (.cells #[.string ⟨#[]⟩,.string ⟨#[]⟩,.string ⟨#[]⟩,.int .i64 0,.int .i64 0,.int .i64 0,.bool false,.int .i64 now,.int .i64 0,.int .i64 fans,.bool false,.bool done] 97));have HX4:Hid (Blk w4 gb 97 #[.string ⟨#[]⟩,.string ⟨#[]⟩,.string ⟨#[]⟩,.int .i64 0,.int .i64 0,.int .i64 0,.bool false,.int .i64 now,.int .i64 0,.int .i64 fans,.bool false,.bool done]):=zh (by rw[<-hw4,<-hgb];exact Blk.new _ _ _);have HB4:Hid (Below w1.heap.size w1 w4):=zh (by rw[<-hw4];exact HB3.o.alloc HB3.o.size _);have HGB:Hid (w1.heap.size<=gb):=zh (by rw[<-hgb];exact HB3.o.size);have HCA:=zh (Zcy (HR1.o.below HB4.o));have HHG:=zh hgb;clear hb3 HC2 HC HD HB2 hgb;go_wp2_with fail;rw[HHG.o];refine HCA.o.mono ?_;rintro e w5 ⟨rfl,rfl⟩;have HC:=zh (HAT.o w4 HB4.o);go_wp2_with fail;refine HC.o.mono ?_;rintro e w5 ⟨rfl,hb5⟩;have HB5:=zT HB4 hb5;have HX5:Hid (Blk w5 gb 97 #[.string ⟨#[]⟩,.string ⟨#[]⟩,.string ⟨#[]⟩,.int .i64 0,.int .i64 0,.int .i64 0,.bool false,.int .i64 now,.int .i64 0,.int .i64 fans,.bool false,.bool done]):=zX HX4 hb5;have HGL:=zh (show gb<w5.heap.size from HX5.o.lt);obtain⟨w6,hw6⟩:=zG (w5.alloc (.cells #[.string X.name,.string X.maker,.string X.tags,.int .i64 X.stock,.int .i64 X.price,.int .i64 X.born,.bool X.listed] 95));have HX6:Hid (Blk w6 gb 97 #[.string ⟨#[]⟩,.string ⟨#[]⟩,.string ⟨#[]⟩,.int .i64 0,.int .i64 0,.int .i64 0,.bool false,.int .i64 now,.int .i64 0,.int .i64 fans,.bool false,.bool done]):=zh (by rw[<-hw6];exact HX5.o.alloc _);have HI6:Hid (Blk w6 w5.heap.size 95 #[.string X.name,.string X.maker,.string X.tags,.int .i64 X.stock,.int .i64 X.price,.int .i64 X.born,.bool X.listed]):=zB hw6;have HB6:Hid (Below w1.heap.size w1 w6):=zh (by rw[<-hw6];exact HB5.o.alloc HB5.o.size _);clear hb5 HC HCA hw4 HX4 HB4 HX5 HB5 HHG hw1;cases ok with
 | false=>
  obtain rfl:=HOFF.o rfl;obtain⟨y0,y1,y2,y3,y4,y5,y6,y7,y8,y9,y10,y11⟩:=zC12 HX6.o;have HY6:Hid (Blk w6 w.heap.size 97 #[.string ⟨#[]⟩,.string ⟨#[]⟩,.string ⟨#[]⟩,.int .i64 0,.int .i64 0,.int .i64 0,.bool false,.int .i64 0,.int .i64 0,.int .i64 0,.bool false,.bool false]):=zh ((HB6.o.block _ HX1.o.lt).trans HX1.o);clear HGL
  go_wp2_with (first
   | (refine Zad _ rfl 97 (.tmp 8) (.tmp 33) rfl 0 #[.string ⟨#[]⟩,.string ⟨#[]⟩,.string ⟨#[]⟩,.int .i64 0,.int .i64 0,.int .i64 0,.bool false,.int .i64 now,.int .i64 0,.int .i64 fans,.bool false,.bool done] rfl rfl HY6.o (by show 0+12<=12;omega) Zkt (by simp[Value.oneCell']) ?_;intro w7 hb7 hk7 hs7)
   | fail)
  (try simp only[Exit.inBlock,Exit.then])
  have hx:Blk w7 w.heap.size 97 (fzA (fzOf E p i now)):=by rw[HZ.o];exact hb7
  refine bodyPost_ret (Zc7 (rb:=w.heap.size) rfl rfl (Zed hx)) rfl ?_;exact⟨rfl,(HB1.o.trans (HB6.o.mono HB1.o.size)).trans (hk7.toBelow (fun i hi=>by rw[hi];exact zr _) (Nat.le_trans HB1.o.size HB6.o.size))⟩
 | true=>
  have hage:=HAGE.o rfl;have HY6:Hid (Blk w6 w.heap.size 97 #[.string ⟨#[]⟩,.string ⟨#[]⟩,.string ⟨#[]⟩,.int .i64 0,.int .i64 0,.int .i64 0,.bool false,.int .i64 0,.int .i64 0,.int .i64 0,.bool false,.bool false]):=zh ((HB6.o.block _ HX1.o.lt).trans HX1.o);have hne:gb≠w5.heap.size:=by have:=HGL.o;omega
  have hwg:w.heap.size<gb:=by have:=HX1.o.lt;have:=HGB.o;omega
  obtain⟨z0,z1,z2,z3,z4,z5,z6⟩:=zC7 HI6.o
  go_upto_region 6 with (first
   | (refine Zad _ rfl 95 (.tmp 35) (.tmp 34) rfl 0 #[.string X.name,.string X.maker,.string X.tags,.int .i64 X.stock,.int .i64 X.price,.int .i64 X.born,.bool X.listed] rfl rfl HX6.o (by show 0+7<=12;omega) Zcq (by simp[Value.oneCell']) ?_;intro w7 hb7 hk7 hs7)
   | fail)
  simp only[putA,xq1,xq2,xq3]at hb7;have HX7:Hid (Blk w7 gb 97 #[.string X.name,.string X.maker,.string X.tags,.int .i64 X.stock,.int .i64 X.price,.int .i64 X.born,.bool X.listed,.int .i64 now,.int .i64 0,.int .i64 fans,.bool false,.bool done]):=zh hb7;have HI7:Hid (Blk w7 w5.heap.size 95 #[.string X.name,.string X.maker,.string X.tags,.int .i64 X.stock,.int .i64 X.price,.int .i64 X.born,.bool X.listed]):=zh (HI6.o.kept hk7 (fun e=>hne e.symm));have HY7:Hid (Blk w7 w.heap.size 97 #[.string ⟨#[]⟩,.string ⟨#[]⟩,.string ⟨#[]⟩,.int .i64 0,.int .i64 0,.int .i64 0,.bool false,.int .i64 0,.int .i64 0,.int .i64 0,.bool false,.bool false]):=zh (HY6.o.kept hk7 (by omega));have HB7:Hid (Below w1.heap.size w1 w7):=zh (HB6.o.trans (hk7.toBelow (fun i hi=>by rw[hi];exact HGB.o) HB6.o.size));have y5:w7.cell? ⟨w5.heap.size,5,none⟩=some (.int .i64 X.born):=HI7.o.cell 5;have y8:w7.cell? ⟨gb,8,none⟩=some (.int .i64 0):=HX7.o.cell 8;have g8:=HX7.o.frozen 8;clear hb7 hk7 hs7 HX6 HI6 HY6 z0 z1 z2 z3 z4 z5 z6;go_upto_region 7 with fail;obtain⟨w8,hw8⟩:=zG (w7.setCell ⟨gb,8,none⟩ (.int .i64 (now - X.born)));rw[hw8];have k78:Kept (fun q=>q=gb) w7 w8:=by rw[<-hw8];exact Za8
  have HX8:Hid (Blk w8 gb 97 #[.string X.name,.string X.maker,.string X.tags,.int .i64 X.stock,.int .i64 X.price,.int .i64 X.born,.bool X.listed,.int .i64 now,.int .i64 (now - X.born),.int .i64 fans,.bool false,.bool done]):=zh (by rw[<-hw8];exact HX7.o.set_ 8 _);have HI8:Hid (Blk w8 w5.heap.size 95 #[.string X.name,.string X.maker,.string X.tags,.int .i64 X.stock,.int .i64 X.price,.int .i64 X.born,.bool X.listed]):=zh (HI7.o.kept k78 (fun e=>hne e.symm));have HY8:Hid (Blk w8 w.heap.size 97 #[.string ⟨#[]⟩,.string ⟨#[]⟩,.string ⟨#[]⟩,.int .i64 0,.int .i64 0,.int .i64 0,.bool false,.int .i64 0,.int .i64 0,.int .i64 0,.bool false,.bool false]):=zh (HY7.o.kept k78 (by omega));have HB8:Hid (Below w1.heap.size w1 w8):=zh (HB7.o.trans (k78.toBelow (fun i hi=>by rw[hi];exact HGB.o) HB7.o.size));clear hw8 k78 y5 y8 g8 HX7 HI7 HY7;obtain⟨wd,hwd⟩:=zG (w8.drew);have HBD:=zD hwd
  have HSM:Hid (∀W,Below w8.heap.size w8 W->World.cell? W ⟨w5.heap.size,1,none⟩=some (.string X.maker)):=zh (fun W hb=>by
   have h1:Blk W w5.heap.size 95 #[.string X.name,.string X.maker,.string X.tags,.int .i64 X.stock,.int .i64 X.price,.int .i64 X.born,.bool X.listed]:=(hb.block _ HI8.o.lt).trans HI8.o;exact h1.cell 1)
  have HC1:=zh (Zbt (HR1.o.below (HB8.o.trans (HBD.o.mono HB8.o.size))));have HFC:=zh (HFO.o wd (HB8.o.trans (HBD.o.mono HB8.o.size)));refine Zaq (fun W=>World.cell? W ⟨w5.heap.size,1,none⟩=some (.string X.maker)) [(0,1),(2,1),(4,1),(5,1),(1,2),(3,2),(6,2),(7,1),(8,3)] (by kernel_rfl) (by kernel_rfl) (by rw[hwd];exact HSM.o wd HBD.o) ?_;simp only[planNL,xq4,xq5];rw[hwd];clear hwd
  repeat (first|(refine Zan _ (by rfl) (fun W hW=>by (have y1:=hW;go_simp;try with_reducible rfl)) ?_;simp only[Act.put,xq1,xq2,xq3])|(refine planN_off (by rfl) ?_;simp only[Act.put,xq1,xq2,xq3])|(refine planN_on0 _ (by rfl) (fun W hW=>by (go_simp;try with_reducible rfl)) ?_;simp only[Act.put,xq1,xq2,xq3]))
  refine Za4 ?_;go_wp2_with fail;refine HC1.o.mono ?_;rintro e w9 ⟨rfl,rfl⟩;go_wp2_with fail;refine⟨HSM.o wd HBD.o,?_⟩;refine Za4 ?_;go_wp2_with fail;refine HFC.o.mono ?_;rintro e w9 ⟨A9,c9,ks,rfl,h1,h2,h3,h4⟩;have HB9:=zT HBD h4;have HCT:=zh (contains_any w9 w9.heap.size A9 ks ks.length c9 X.maker rfl h2 (by omega));rw[h1]at HCT;clear h1 h2 h3 h4 HFC HC1;go_wp2_with fail;refine⟨HSM.o w9 HB9.o,?_⟩;refine Za4 ?_;go_wp2_with fail;refine HCT.o.mono ?_;rintro e w10 ⟨rfl,rfl⟩;have HX9:Hid (Blk w9 gb 97 #[.string X.name,.string X.maker,.string X.tags,.int .i64 X.stock,.int .i64 X.price,.int .i64 X.born,.bool X.listed,.int .i64 now,.int .i64 (now - X.born),.int .i64 fans,.bool false,.bool done]):=zh ((HB9.o.block _ HX8.o.lt).trans HX8.o);have HY9:Hid (Blk w9 w.heap.size 97 #[.string ⟨#[]⟩,.string ⟨#[]⟩,.string ⟨#[]⟩,.int .i64 0,.int .i64 0,.int .i64 0,.bool false,.int .i64 0,.int .i64 0,.int .i64 0,.bool false,.bool false]):=zh ((HB9.o.block _ HY8.o.lt).trans HY8.o);have y10:w9.cell? ⟨gb,10,none⟩=some (.bool false):=HX9.o.cell 10;have g10:=HX9.o.frozen 10;clear HCT HX8 HY8;go_wp2_with fail;refine⟨HSM.o w9 HB9.o,?_⟩
  repeat (first|(refine Zan _ (by rfl) (fun W hW=>by (have y1:=hW;go_simp;try with_reducible rfl)) ?_;simp only[Act.put,xq1,xq2,xq3])|(refine planN_off (by rfl) ?_;simp only[Act.put,xq1,xq2,xq3])|(refine planN_on0 _ (by rfl) (fun W hW=>by (go_simp;try with_reducible rfl)) ?_;simp only[Act.put,xq1,xq2,xq3]))
  refine Zai ?_;go_wp2_with fail;obtain⟨w11,hw11⟩:=zG (w9.setCell ⟨gb,10,none⟩ (.bool fol));rw[hw11];have k9:Kept (fun q=>q=gb) w9 w11:=by rw[<-hw11];exact Za8
  have HX11:Hid (Blk w11 gb 97 #[.string X.name,.string X.maker,.string X.tags,.int .i64 X.stock,.int .i64 X.price,.int .i64 X.born,.bool X.listed,.int .i64 now,.int .i64 (now - X.born),.int .i64 fans,.bool fol,.bool done]):=zh (by rw[<-hw11];exact HX9.o.set_ 10 _);have HY11:Hid (Blk w11 w.heap.size 97 #[.string ⟨#[]⟩,.string ⟨#[]⟩,.string ⟨#[]⟩,.int .i64 0,.int .i64 0,.int .i64 0,.bool false,.int .i64 0,.int .i64 0,.int .i64 0,.bool false,.bool false]):=zh (HY9.o.kept k9 (by omega));have HB11:Hid (Below w1.heap.size w1 w11):=zh ((HB8.o.trans (HB9.o.mono HB8.o.size)).trans (k9.toBelow (fun i hi=>by rw[hi];exact HGB.o) (HB8.o.trans (HB9.o.mono HB8.o.size)).size));clear hw11 k9 y10 g10 HX9 HY9;obtain⟨y0,y1,y2,y3,y4,y5,y6,y7,y8,y9,y10,y11⟩:=zC12 HX11.o;refine Zaj ?_
  go_wp2_with (first
   | (refine Zad _ rfl 97 (.tmp 8) (.tmp 49) rfl 0 #[.string X.name,.string X.maker,.string X.tags,.int .i64 X.stock,.int .i64 X.price,.int .i64 X.born,.bool X.listed,.int .i64 now,.int .i64 (now - X.born),.int .i64 fans,.bool fol,.bool done] rfl rfl HY11.o (by show 0+12<=12;omega) Zkt (by simp[Value.oneCell']) ?_;intro w12 hb12 hk12 hs12)
   | fail)
  (try simp only[Exit.inBlock,Exit.then])
  simp only[putA,xq1,xq2,xq3]at hb12;have hz:fzA (fzOf E p i now)=#[.string X.name,.string X.maker,.string X.tags,.int .i64 X.stock,.int .i64 X.price,.int .i64 X.born,.bool X.listed,.int .i64 now,.int .i64 (now - X.born),.int .i64 fans,.bool fol,.bool done]:=by
   rw[HZ.o];simp[fzA]
  have hx:Blk w12 w.heap.size 97 (fzA (fzOf E p i now)):=by rw[hz];exact hb12
  refine bodyPost_ret (Zc7 (rb:=w.heap.size) rfl rfl (Zed hx)) rfl ?_;exact⟨rfl,(HB1.o.trans (HB11.o.mono HB1.o.size)).trans (hk12.toBelow (fun i hi=>by rw[hi];exact zr _) (Nat.le_trans HB1.o.size HB11.o.size))⟩
end Go.Proofs.YtnpfaajhgghpgaaGreatDoor
namespace Go.Proofs.YtnpfaajhgghpgaaGreatDoor
open Go.Shelf Go.RowKit Go.Maps
open Ru (Fz fzA fzX FAC Zed ROf)
def RuleH (w:World)(v:Value)(h:Fz->Bool):Prop:=∀W,Below w.heap.size w W->∀z:Fz,z.tags.size<=300->Calls Tryz.prog 36 #[v,.agg (fzA z)] W (ROf (h z) W)
theorem RuleH.below {w w':World}{v:Value}{h:Fz->Bool}(H:RuleH w v h)(k:Below w.heap.size w w'):RuleH w' v h:=fun W hb z hz=>H W (k.trans (hb.mono k.size)) z hz
theorem RuleH.nil (w:World):RuleH w (.pointer none) (fun _=>true):=fun W _ z _=>Ru.Zne z W
def fstW:List Bool->Nat->Nat
 | [],_=>0
 | b::r,k=>if b then k+1 else fstW r (k+1)
def rowL (z:Fz)(hid:Bool)(crowd span:Int)(ok:Bool):List Bool:=[!z.listed,decide (z.stock=0),hid,z.done,decide (z.fans<crowd)&&decide (span<z.age),!ok]
theorem Zqk (z:Fz)(hid:Bool)(crowd span:Int)(ok:Bool):whyP z hid crowd span ok=fstW (rowL z hid crowd span ok) 0:=by
 unfold whyP rowL fstW;cases z.listed <;> cases hid <;> cases z.done <;> cases ok <;> simp[fstW]
structure FcAt (w:World) (wc pc ic rc cc fb wb cr:Nat) (p i:ByteArray) (v:Value) (z:Fz):Prop where
 hwc:w.cell? ⟨wc,0,none⟩=some (.pointer (some ⟨wb,0,none⟩))
 hpc:w.cell? ⟨pc,0,none⟩=some (.string p)
 hic:w.cell? ⟨ic,0,none⟩=some (.string i)
 hrc:w.cell? ⟨rc,0,none⟩=some v
 hcc:w.cell? ⟨cc,0,none⟩=some (.pointer (some ⟨cr,0,none⟩))
 hfb:Blk w fb 97 (fzA z)
 lt:wc<w.heap.size/\pc<w.heap.size/\ic<w.heap.size/\rc<w.heap.size/\cc<w.heap.size
theorem FcAt.below {w w':World}{wc pc ic rc cc fb wb cr:Nat}{p i:ByteArray}{v:Value}{z:Fz}(h:FcAt w wc pc ic rc cc fb wb cr p i v z)(k:Below w.heap.size w w'):FcAt w' wc pc ic rc cc fb wb cr p i v z:=
 ⟨(k.cell (p:=⟨wc,0,none⟩) h.lt.1).trans h.hwc,(k.cell (p:=⟨pc,0,none⟩) h.lt.2.1).trans h.hpc,(k.cell (p:=⟨ic,0,none⟩) h.lt.2.2.1).trans h.hic,(k.cell (p:=⟨rc,0,none⟩) h.lt.2.2.2.1).trans h.hrc,(k.cell (p:=⟨cc,0,none⟩) h.lt.2.2.2.2).trans h.hcc,(k.block _ h.hfb.lt).trans h.hfb,by have:=k.size;have:=h.lt;omega⟩
def BoolR (b:Bool)(w:World)(e:Ending)(w':World):Prop:=e = .returned (.bool b)/\Below w.heap.size w w'
section
variable {w : World} {wc pc ic rc cc fb wb ct cr : Nat} {c : Cfg} {E : List Ev} {p i : ByteArray} {v : Value} {z : Fz}
theorem Zsw (h:FcAt w wc pc ic rc cc fb wb cr p i v z):Calls Tryz.prog 31 #[.pointer (some ⟨fb,0,none⟩)] w (BoolR (!z.listed) w):=by
 have c6:w.cell? ⟨fb,6,none⟩=some (.bool z.listed):=h.hfb.cell 6;clear h;go_enter Tryz.func31,Tryz.ntmps31;go_wp2_with fail;go_ret;exact⟨rfl,Below.refl _ _⟩
theorem Zsx (h:FcAt w wc pc ic rc cc fb wb cr p i v z):Calls Tryz.prog 32 #[.pointer (some ⟨fb,0,none⟩)] w (BoolR (decide (z.stock=0)) w):=by
 have c6:w.cell? ⟨fb,3,none⟩=some (.int .i64 z.stock):=h.hfb.cell 3;clear h;go_enter Tryz.func32,Tryz.ntmps32;go_wp2_with fail;go_ret;exact⟨by rw[show (z.stock == 0)=decide (z.stock=0) from rfl];rfl,Below.refl _ _⟩
theorem Zsy (h:FcAt w wc pc ic rc cc fb wb cr p i v z):Calls Tryz.prog 33 #[.pointer (some ⟨fb,0,none⟩)] w (BoolR z.done w):=by
 have c6:w.cell? ⟨fb,11,none⟩=some (.bool z.done):=h.hfb.cell 11;clear h;go_enter Tryz.func33,Tryz.ntmps33;go_wp2_with fail;go_ret;exact⟨rfl,Below.refl _ _⟩
theorem Zsz {H:Fz->Bool}(h:FcAt w wc pc ic rc cc fb wb cr p i v z)(hr:RuleH w v H)(hz:z.tags.size<=300):Calls Tryz.prog 35 #[.pointer (some ⟨rc,0,none⟩),.pointer (some ⟨fb,0,none⟩)] w (BoolR (!H z) w):=by
 have c1:=h.hrc;have f0:w.cell? ⟨fb,0,none⟩=some (.string z.name):=h.hfb.cell 0;have f1:w.cell? ⟨fb,1,none⟩=some (.string z.maker):=h.hfb.cell 1;have f2:w.cell? ⟨fb,2,none⟩=some (.string z.tags):=h.hfb.cell 2;have f3:w.cell? ⟨fb,3,none⟩=some (.int .i64 z.stock):=h.hfb.cell 3;have f4:w.cell? ⟨fb,4,none⟩=some (.int .i64 z.price):=h.hfb.cell 4;have f5:w.cell? ⟨fb,5,none⟩=some (.int .i64 z.born):=h.hfb.cell 5;have f6:w.cell? ⟨fb,6,none⟩=some (.bool z.listed):=h.hfb.cell 6;have f7:w.cell? ⟨fb,7,none⟩=some (.int .i64 z.now):=h.hfb.cell 7;have f8:w.cell? ⟨fb,8,none⟩=some (.int .i64 z.age):=h.hfb.cell 8;have f9:w.cell? ⟨fb,9,none⟩=some (.int .i64 z.fans):=h.hfb.cell 9;have f10:w.cell? ⟨fb,10,none⟩=some (.bool z.follows):=h.hfb.cell 10;have f11:w.cell? ⟨fb,11,none⟩=some (.bool z.done):=h.hfb.cell 11;have HH:=zh (hr w (Below.refl _ _) z hz);unfold fzA at HH;clear h hr;go_enter Tryz.func35,Tryz.ntmps35;go_wp2_with fail;refine HH.o.mono ?_;rintro e w1 ⟨rfl,hb1⟩;have HB:=zh hb1;clear hb1 HH;go_wp2_with fail;go_ret;exact⟨rfl,HB.o⟩
theorem Zs0 {hd:Bool}(h:FcAt w wc pc ic rc cc fb wb cr p i v z)(hw:WrAt w wb ct cr c E)(hlen:E.length<=1000)(hp:p.size<=300)(hi:i.size<=300)(hm:(hidO (rowsW E) p i).getD false=false->decide (mutO (rowsW E) p z.maker=some true)=hd)(ho:(hidO (rowsW E) p i).getD false=true->true=hd) :
  Calls Tryz.prog 27 #[.pointer (some ⟨cc,0,none⟩),.pointer (some ⟨pc,0,none⟩),.pointer (some ⟨ic,0,none⟩),.pointer (some ⟨fb,0,none⟩)] w (BoolR hd w):=by
 obtain⟨a,ha⟩:=zG ((hidO (rowsW E) p i).getD false);obtain⟨U,hU⟩:=hw.crw;have hrl:=Zcs E;have HS:Hid (∀W,Below w.heap.size w W->FcAt W wc pc ic rc cc fb wb cr p i v z):=zh (fun W hb=>h.below hb);have HSC:Hid (∀W,Below w.heap.size w W->World.cell? W ⟨pc,0,none⟩=some (.string p)/\World.cell? W ⟨ic,0,none⟩=some (.string i)/\World.cell? W ⟨cc,0,none⟩=some (.pointer (some ⟨cr,0,none⟩))/\World.cell? W ⟨fb,1,none⟩=some (.string z.maker)):=zh (fun W hb=>⟨(HS.o W hb).hpc,(HS.o W hb).hic,(HS.o W hb).hcc,(HS.o W hb).hfb.cell 1⟩);have HHD:Hid (∀W,Below w.heap.size w W->Calls Tryz.prog 28 #[.pointer (some ⟨cr,0,none⟩),.string p,.string i] W fun e w'=>e = .returned (.bool a)/\Below W.heap.size W w'):=zh (fun W hb=>by rw[<-ha];exact Zfb cr (halfP c.half) U (rowsW E) p i W (hU.below hb) (by unfold maxLen;omega) (by unfold maxLen;omega))
 have HMU:Hid (∀W,Below w.heap.size w W->Calls Tryz.prog 30 #[.pointer (some ⟨cr,0,none⟩),.string p] W fun e w'=>∃(A:Option Addr) (c:Nat) (ks:List ByteArray),e = .returned (.slice A ks.length c)/\memB z.maker ks=decide (mutO (rowsW E) p z.maker=some true)/\RowIn w' w'.heap.size 1 A ks.length (ks.map .string)/\ks.length<=1000/\Below W.heap.size W w'):=zh (fun W hb=>by
  refine (Zhz cr (halfP c.half) U (rowsW E) p W (hU.below hb) (by unfold maxLen;omega) (by omega)).mono ?_;rintro e w' ⟨A,c,ks,rfl,h1,h2,h3,h4⟩;exact⟨A,c,ks,rfl,by rw[Zfg h1],RowIn.of_own h2,h3,h4⟩)
 rw[ha]at hm ho;have HM:=zh hm;have HO:=zh ho;clear h hw hlen hp hi hm ho hU hrl ha;obtain⟨wd,hwd⟩:=zG (w.drew);have HBD:=zD hwd;go_enter Tryz.func27,Tryz.ntmps27;go_wp2_with fail;refine Zar (fun W=>Below w.heap.size w W) [(0,false),(1,false),(2,false),(3,true),(4,false),(5,false),(6,false),(8,false),(9,false),(10,false),(7,true),(11,true),(12,false),(13,false)] (by kernel_rfl) (by kernel_rfl) (below_drew (Below.refl _ _)) ?_;simp only[planL,xq4,xq5];rw[hwd];clear hwd
 repeat ((first|(refine Zaf _ (by rfl) (fun W hW=>by (obtain⟨y0,y1,y2,y3⟩:=HSC.o W hW;go_simp;try with_reducible rfl)) ?_)|(refine Zac (by rfl) ?_));simp only[Act.put,xq1,xq2,xq3])
 refine Zae ?_;have HC:=zh (HHD.o wd HBD.o);go_wp2_with fail;refine HC.o.mono ?_;rintro e w1 ⟨rfl,hb1⟩;have HB1:=zT HBD hb1;clear hb1 HC;cases a with
 | true=>
  go_wp2_with fail;refine⟨HB1.o,?_⟩
  repeat ((first|(refine Zaf _ (by rfl) (fun W hW=>by (obtain⟨y0,y1,y2,y3⟩:=HSC.o W hW;go_simp;try with_reducible rfl)) ?_)|(refine Zac (by rfl) ?_));simp only[Act.put,xq1,xq2,xq3])
  refine Zae ?_;go_wp2_with fail;refine⟨HB1.o,?_⟩;refine Zae ?_;go_wp2_with fail;refine⟨HB1.o,?_⟩
  repeat ((first|(refine Zaf _ (by rfl) (fun W hW=>by (obtain⟨y0,y1,y2,y3⟩:=HSC.o W hW;go_simp;try with_reducible rfl)) ?_)|(refine Zac (by rfl) ?_));simp only[Act.put,xq1,xq2,xq3])
  refine Zah ?_;go_wp2_with fail;go_ret;exact⟨by rw[<-HO.o trivial];rfl,HB1.o⟩
 | false=>
  have HMM:=HM.o rfl;go_wp2_with fail;refine⟨HB1.o,?_⟩
  repeat ((first|(refine Zaf _ (by rfl) (fun W hW=>by (obtain⟨y0,y1,y2,y3⟩:=HSC.o W hW;go_simp;try with_reducible rfl)) ?_)|(refine Zac (by rfl) ?_));simp only[Act.put,xq1,xq2,xq3])
  refine Zae ?_;have HC:=zh (HMU.o w1 HB1.o);go_wp2_with fail;refine HC.o.mono ?_;rintro e w2 ⟨A2,c2,ks,rfl,h1,h2,h3,h4⟩;have HB2:=zT HB1 h4;have HCT:=zh (contains_any w2 w2.heap.size A2 ks ks.length c2 z.maker rfl h2 (by omega));rw[h1,HMM]at HCT;clear h1 h2 h3 h4 HC;go_wp2_with fail;refine⟨HB2.o,?_⟩;refine Zae ?_;go_wp2_with fail;refine HCT.o.mono ?_;rintro e w3 ⟨rfl,rfl⟩;clear HCT;go_wp2_with fail;refine⟨HB2.o,?_⟩
  repeat ((first|(refine Zaf _ (by rfl) (fun W hW=>by (obtain⟨y0,y1,y2,y3⟩:=HSC.o W hW;go_simp;try with_reducible rfl)) ?_)|(refine Zac (by rfl) ?_));simp only[Act.put,xq1,xq2,xq3])
  refine Zah ?_;go_wp2_with fail;go_ret;exact⟨rfl,HB2.o⟩
theorem Zs1 (h:FcAt w wc pc ic rc cc fb wb cr p i v z)(hw:WrAt w wb ct cr c E) :
  Calls Tryz.prog 34 #[.pointer (some ⟨fb,0,none⟩),.pointer (some ⟨wc,0,none⟩)] w (BoolR (decide (z.fans<c.crowd)&&decide (c.span<z.age)) w):=by
 obtain⟨a,ha⟩:=zG (decide (z.fans<c.crowd));have HS:Hid (∀W,Below w.heap.size w W->FcAt W wc pc ic rc cc fb wb cr p i v z):=zh (fun W hb=>h.below hb);have HSC:Hid (∀W,Below w.heap.size w W->World.cell? W ⟨wc,0,none⟩=some (.pointer (some ⟨wb,0,none⟩))/\World.cell? W ⟨fb,9,none⟩=some (.int .i64 z.fans)/\World.cell? W ⟨fb,8,none⟩=some (.int .i64 z.age)):=zh (fun W hb=>⟨(HS.o W hb).hwc,(HS.o W hb).hfb.cell 9,(HS.o W hb).hfb.cell 8⟩);have HCF:Hid (∀W,Below w.heap.size w W->Calls Tryz.prog 23 #[.pointer (some ⟨wb,0,none⟩)] W fun e w'=>e = .returned (cfgA c)/\Below W.heap.size W w'):=zh (fun W hb=>Zc8 (hw.below hb));clear h hw;obtain⟨wd,hwd⟩:=zG (w.drew);have HBD:=zD hwd;have HA:=zh ha;go_enter Tryz.func34,Tryz.ntmps34;go_wp2_with fail;refine Zar (fun W=>Below w.heap.size w W) [(0,false),(1,false),(2,false),(3,true),(4,false),(5,false),(6,false),(7,false),(8,false),(9,false),(10,true),(11,false),(12,false),(13,false),(14,false)] (by kernel_rfl) (by kernel_rfl) (below_drew (Below.refl _ _)) ?_;simp only[planL,xq4,xq5];rw[hwd];clear hwd
 repeat ((first|(refine Zaf _ (by rfl) (fun W hW=>by (obtain⟨y0,y1,y2⟩:=HSC.o W hW;go_simp;try with_reducible rfl)) ?_)|(refine Zac (by rfl) ?_));simp only[Act.put,xq1,xq2,xq3])
 refine Zae ?_;have HC:=zh (HCF.o wd HBD.o);unfold cfgA at HC;go_wp2_with fail;refine HC.o.mono ?_;rintro e w1 ⟨rfl,hb1⟩;have HB1:=zT HBD hb1;clear hb1 HC;cases a with
 | false=>
  have hA:=HA.o;go_wp2_with fail;refine⟨HB1.o,?_⟩;refine Zaf (.int .i64 c.crowd) (by rfl) (fun W hW=>by rfl) ?_;simp only[Act.put,xq1,xq2,xq3]
  repeat ((first|(refine Zaf _ (by rfl) (fun W hW=>by (obtain⟨y0,y1,y2⟩:=HSC.o W hW;go_simp;try with_reducible rfl)) ?_)|(refine Zac (by rfl) ?_));simp only[Act.put,xq1,xq2,xq3])
  refine Zae ?_;go_wp2_with fail;refine⟨HB1.o,?_⟩
  repeat ((first|(refine Zaf _ (by rfl) (fun W hW=>by (obtain⟨y0,y1,y2⟩:=HSC.o W hW;go_simp;try with_reducible rfl)) ?_)|(refine Zac (by rfl) ?_));simp only[Act.put,xq1,xq2,xq3])
  refine Zah ?_;go_wp2_with fail;go_ret;exact⟨by simp[HA.o],HB1.o⟩
 | true=>
  have hA:=HA.o;go_wp2_with fail;refine⟨HB1.o,?_⟩;refine Zaf (.int .i64 c.crowd) (by rfl) (fun W hW=>by rfl) ?_;simp only[Act.put,xq1,xq2,xq3]
  repeat ((first|(refine Zaf _ (by rfl) (fun W hW=>by (obtain⟨y0,y1,y2⟩:=HSC.o W hW;go_simp;try with_reducible rfl)) ?_)|(refine Zac (by rfl) ?_));simp only[Act.put,xq1,xq2,xq3])
  refine Zae ?_;have HC:=zh (HCF.o w1 HB1.o);unfold cfgA at HC;go_wp2_with fail;refine HC.o.mono ?_;rintro e w2 ⟨rfl,hb2⟩;have HB2:=zT HB1 hb2;clear hb2 HC;go_wp2_with fail;refine⟨HB2.o,?_⟩;refine Zaf (.int .i64 c.span) (by rfl) (fun W hW=>by rfl) ?_;simp only[Act.put,xq1,xq2,xq3]
  repeat ((first|(refine Zaf _ (by rfl) (fun W hW=>by (obtain⟨y0,y1,y2⟩:=HSC.o W hW;go_simp;try with_reducible rfl)) ?_)|(refine Zac (by rfl) ?_));simp only[Act.put,xq1,xq2,xq3])
  refine Zah ?_;go_wp2_with fail;go_ret;exact⟨by simp[HA.o],HB2.o⟩
end
end Go.Proofs.YtnpfaajhgghpgaaGreatDoor
