/- A part of the joined base. -/
import Derived.Test.YtphmhbcimhlcjaaGreatDoorT36
set_option linter.unusedVariables false
set_option maxHeartbeats 8000000
set_option maxRecDepth 100000
namespace Go.Proofs.YtphmhbcimhlcjaaGreatDoor
open Go.Shelf Go.RowKit Go.Maps
def plusS:ByteArray:=⟨#[32,43,32]⟩
def noneN:ByteArray:=⟨#[32,110,111,110,101]⟩
def semiS:ByteArray:=⟨#[59,32]⟩
def evT (s:ByteArray)(l:List Ev):ByteArray:=l.foldl (fun s e=>s++plusS++fmtB e) s
theorem evT_snoc (s:ByteArray)(l:List Ev)(e:Ev):evT s (l++[e])=evT s l++plusS++fmtB e:=by unfold evT;rw[List.foldl_append];rfl
def chT (x:Int×List Ev):ByteArray:=if x.2 = [] then evT (whyN x.1) x.2++noneN else evT (whyN x.1) x.2
def joinB (l:List ByteArray):ByteArray:=⟨(Lib.join (l.map (·.data.toList)) semiS.data.toList).toArray⟩
def textW (l:List (Int×List Ev)):ByteArray:=joinB (l.map chT)
theorem bt_assoc (a b c:ByteArray):a++b++c=a++(b++c):=by
 apply ba_eq;simp[ByteArray.data_append]
theorem bt_nil (a:ByteArray):a++(⟨#[]⟩:ByteArray)=a:=by
 apply ba_eq;simp[ByteArray.data_append]
theorem bt_nil' (a:ByteArray):(⟨#[]⟩:ByteArray)++a=a:=by
 apply ba_eq;simp[ByteArray.data_append]
theorem evT_app (a s:ByteArray)(l:List Ev):evT (a++s) l=a++evT s l:=by
 refine snocI (p:=fun l=>evT (a++s) l=a++evT s l) rfl (fun l e ih=>?_) l;rw[evT_snoc,evT_snoc,ih,bt_assoc,bt_assoc,bt_assoc]
theorem tail_snoc (sep:List UInt8)(l:List (List UInt8))(x:List UInt8):Lib.joinTail sep (l++[x])=Lib.joinTail sep l++sep++x:=by
 unfold Lib.joinTail;simp
theorem joinB_one (x:ByteArray):joinB [x]=x:=by
 apply ba_eq;unfold joinB;simp[Lib.join_cons,Lib.joinTail]
theorem joinB_snoc {l:List ByteArray}(h:l≠[])(x:ByteArray):joinB (l++[x])=joinB l++semiS++x:=by
 apply ba_eq;obtain⟨a,l',rfl⟩:=List.exists_cons_of_ne_nil h;unfold joinB;simp only[List.cons_append,List.map_cons,List.map_append,List.map_nil,Lib.join_cons,tail_snoc,ByteArray.data_append];simp
theorem textW_snoc (l:List (Int×List Ev))(x:Int×List Ev):textW (l++[x])=(if l = [] then ⟨#[]⟩ else textW l++semiS)++chT x:=by
 unfold textW;rw[List.map_append,List.map_singleton];by_cases h:l = []
 ·subst h;rw[if_pos rfl,List.map_nil,List.nil_append,joinB_one,bt_nil']
 ·rw[if_neg h,joinB_snoc (fun e=>h (List.map_eq_nil_iff.1 e))]
theorem fmtB_size {e:Ev}(h:EvLe 300 e):(fmtB e).size<=3000:=by
 unfold fmtB;split
 ·rename_i hm
  have hp:=Zas hm;have hv:=Znt hm;have h1:=Znm h (by unfold InR;omega) (by unfold InR;omega) (by unfold InR;omega)
  have h2:=Zp4 301 [32] (((fmtW e).map dotB).map (·.data.toList)) (fun x hx=>by
   obtain⟨y,hy,rfl⟩:=List.mem_map.1 hx;obtain⟨z,hz,rfl⟩:=List.mem_map.1 hy;have h3:=dot_size z;have h4:=h1 z hz;have h5:(dotB z).data.toList.length=(dotB z).size:=by simp
   omega)
  have h6:(fmtJ e).size=(Lib.join (((fmtW e).map dotB).map (·.data.toList)) [32]).length:=by
   unfold fmtJ;show (List.toArray _).size=_;simp
  rw[h6];have h7:(((fmtW e).map dotB).map (·.data.toList)).length=8:=by simp[fmtW]
  have h9:([32]:List UInt8).length=1:=rfl;rw[h7,h9]at h2;omega
 ·exact Nat.zero_le _
theorem plus_size:plusS.size=3:=rfl
theorem evT_size {n:Nat}(s:ByteArray)(hs:s.size<=n):∀(l:List Ev),(∀e∈l,EvLe 300 e)->(evT s l).size<=n+l.length*3003:=by
 refine snocI (p:=fun l=>(∀e∈l,EvLe 300 e)->(evT s l).size<=n+l.length*3003) (fun _=>by simpa [evT] using hs) (fun l e ih h=>?_);have h1:=ih (fun x hx=>h x (List.mem_append_left _ hx));have h2:=fmtB_size (h e (by simp));rw[evT_snoc,ByteArray.size_append,ByteArray.size_append,plus_size,List.length_append,List.length_singleton];omega
theorem whyN_size (y:Int):(whyN y).size<=10:=by
 unfold whyN;split
 ·have h:∀x∈whysL,x.size<=10:=by decide
  cases hk:whysL[y.toNat]? with
  | none=>rw[List.getD_eq_getElem?_getD,hk];exact Nat.zero_le _
  | some x=>rw[List.getD_eq_getElem?_getD,hk];exact h x (List.mem_of_getElem? hk)
 ·exact Nat.zero_le _
theorem chT_size {x:Int×List Ev}(hn:x.2.length<=6)(h:∀e∈x.2,EvLe 300 e):(chT x).size<=18100:=by
 have h1:=evT_size (whyN x.1) (whyN_size x.1) x.2 h;unfold chT;split
 ·rw[ByteArray.size_append];have:noneN.size=5:=rfl;omega
 ·omega
theorem joinB_size {m:Nat}:∀(l:List ByteArray),(∀x∈l,x.size<=m)->(joinB l).size<=l.length*(m+2):=by
 intro l h
 have h1:=Zp4 m semiS.data.toList (l.map (·.data.toList)) (fun x hx=>by
  obtain⟨y,hy,rfl⟩:=List.mem_map.1 hx;have:=h y hy;simpa using this)
 have h2:(joinB l).size=(Lib.join (l.map (·.data.toList)) semiS.data.toList).length:=by
  unfold joinB;show (List.toArray _).size=_;simp
 rw[h2];have h3:semiS.data.toList.length=2:=rfl;rw[h3,List.length_map]at h1;exact h1
def ChFew (l:List (Int×List Ev)):Prop:=∀x∈l,x.2.length<=6/\∀e∈x.2,EvLe 300 e
theorem textW_size {l:List (Int×List Ev)}(hn:l.length<=8)(h:ChFew l):(textW l).size<=144900:=by
 have h1:=joinB_size (m:=18100) (l.map chT) (fun x hx=>by
  obtain⟨y,hy,rfl⟩:=List.mem_map.1 hx;exact chT_size (h y hy).1 (h y hy).2)
 rw[List.length_map]at h1;unfold textW;omega
def chI (u:Int×Value):List Value:=[.int .i64 u.1,u.2]
theorem chI_len (u:Int×Value):(chI u).length=2:=rfl
def ChiIn (w:World)(B:Nat)(u:Int×Value)(x:Int×List Ev):Prop:=u.1=x.1/\∃A cp,u.2 = .slice A x.2.length cp/\EvsAt w B A x.2
def ChisIn (w:World)(B:Nat)(us:List (Int×Value))(l:List (Int×List Ev)):Prop:=us.length=l.length/\∀(k:Nat) u x,us[k]? = some u->l[k]? = some x->ChiIn w B u x
theorem formatA_any (e:Ev)(w:World)(hle:EvLe 300 e)(hg:GlobAt w)(hkn:KnAt w)(htb:Ru.TabAt w):Calls Tryz.prog 59 #[evA e] w fun x w'=>x = .returned (.string (fmtB e))/\Below w.heap.size w w':=by
 by_cases hm:mayB e=true
 ·have hok:EvOk e:=⟨hm,hle⟩
  have h:=Zf3 e w hok hok.val hg hkn htb
  rwa [<-Znu hok]at h
 ·have hmf:mayB e=false:=by simpa using hm
  have HF:Hid (fmtB e=⟨#[]⟩):=zh (if_neg hm);obtain⟨w1,hw1⟩:=zG (w.alloc (.cells (evArr e) 66));have HE1:Hid (Blk w1 w.heap.size 66 (evArr e)):=zB hw1;have HB1:=zA hw1;have HM:=zh (may_any e w1 ⟨by have:=hle.1;omega,by have:=hle.2.1;omega,by have:=hle.2.2.1;omega,by have:=hle.2.2.2;omega⟩ (hg.keep HB1.o (zr _)));rw[hmf]at HM;obtain⟨d0,d1,d2,d3,d4,d5,d6,d7⟩:=zC8 HE1.o;unfold evA at HM ⊢;unfold evArr at hw1;clear hle hg hkn htb hm hmf;go_enter Tryz.func59,Tryz.ntmps59;go_wp2_with fail;try rw[hw1]
  refine HM.o.mono ?_;rintro x w2 ⟨rfl,hb2⟩;have HB2:=zT HB1 hb2;clear hb2 HM;go_wp2_with fail;go_ret;exact⟨by rw[HF.o];rfl,HB2.o⟩
end Go.Proofs.YtphmhbcimhlcjaaGreatDoor
namespace Go.Proofs.YtphmhbcimhlcjaaGreatDoor
open Go.Shelf Go.RowKit Go.Maps
theorem join_none (sep:ByteArray)(w:World):Calls Tryz.prog 60 #[.slice none 0 0,.string sep] w fun e w'=>e = .returned (.string ⟨#[]⟩)/\Below w.heap.size w w':=by
 go_enter Tryz.func60,Tryz.ntmps60;go_wp2_with fail;go_ret;exact⟨rfl,Below.refl _ _⟩
structure ChsAt (w:World) (B:Nat) (A:Option Addr) (n c:Nat) (us:List (Int×Value)) (l:List (Int×List Ev)):Prop where
 len:l.length=n
 row:RowIn w B 2 A n (us.flatMap chI)
 ins:ChisIn w B us l
theorem ChsAt.below {w w':World}{B:Nat}{A:Option Addr}{n c:Nat}{us:List (Int×Value)}{l:List (Int×List Ev)}(h:ChsAt w B A n c us l)(hb:Below B w w'):ChsAt w' B A n c us l:=
 ⟨h.len,h.row.below hb,h.ins.1,fun k u x h1 h2=>by
  obtain⟨q1,A',cp,q2,q3⟩:=h.ins.2 k u x h1 h2;exact⟨q1,A',cp,q2,q3.below hb⟩⟩
structure TxL (w:World):Prop where
 l:Lb2 w
 f:FnAt w
theorem TxL.keep {w w':World}(h:TxL w)(hb:Below w.heap.size w w'):TxL w':=⟨h.l.keep hb,h.f.keep hb⟩
theorem wtext_any (w:World)(B:Nat)(A:Option Addr)(n c:Nat)(us:List (Int×Value))(cl:List (Int×List Ev))(h:ChsAt w B A n c us cl)(hB:B<=w.heap.size)(hn:n<=8)(hf:ChFew cl)(hl:TxL w) :
  Calls Tryz.prog 17 #[.slice A n c] w fun e w'=>e = .returned (.string (textW cl))/\Below w.heap.size w w':=by
 have HN:=zh h.len;have HCH:Hid (∀W,Below w.heap.size w W->ChsAt W B A n c us cl):=zh (fun W hb=>h.below (hb.mono hB));have HFW:=zh hf;have HLB:Hid (∀W,Below w.heap.size w W->TxL W):=zh (fun W hb=>hl.keep hb);have HBB:=zh hB;obtain⟨i0,hi0,hz0,hz1,hz2⟩:=info_parts Zjy;clear h hB hf hl;go_enter Tryz.func17,Tryz.ntmps17;go_wp2_with fail;go_loopw [3,11] (fun tv iv wr=>∃(k m:Nat) (A':Option Addr) (c':Nat),k<=n/\m<=k/\iv = .int .i64 k/\tv = .slice A' m c'/\Hid (m=k)/\Hid (k=0->A'=none/\c'=0)/\Hid (wr.ownsRow w.heap.size 9 1 (.slice A' m c') m (((cl.take k).map chT).map .string))/\Hid (Below w.heap.size w wr)) (fun _ iv _=>n - (intOf iv).toNat)
 case atStart=>exact⟨0,0,none,0,Nat.zero_le _,zr _,rfl,rfl,zh rfl,zh (fun _=>⟨rfl,rfl⟩),zh (own_nil _ _ _ _),zh (Below.refl _ _)⟩
 case round=>
  obtain⟨k,m,A5,c5,hk,hml,rfl,rfl,HMK,HNIL,HO,HBR⟩:=hrel;by_cases hlt:k<n
  ·obtain⟨z,hz⟩:∃z,cl[k]? = some z:=⟨cl[k]'(by rw[HN.o];exact hlt),List.getElem?_eq_getElem _⟩
   have hch:=HCH.o wr HBR.o;obtain⟨u,hu⟩:∃u,us[k]? = some u:=⟨us[k]'(by rw[hch.ins.1,HN.o];exact hlt),List.getElem?_eq_getElem _⟩
   obtain⟨b,off,rfl,hb,hcl⟩:=hch.row.at (by omega);obtain⟨hu1,A6,c6,hu2,he6⟩:=hch.ins.2 k u z hu hz;obtain⟨u1,u2⟩:=u;dsimp only at hu1 hu2;subst hu2;have HFZ:=zh (HFW.o z (List.mem_of_getElem? hz));have HZK:Hid (cl.take (k+1)=cl.take k++[z]):=zh (Zbd hz);obtain⟨z1,z2⟩:=z;dsimp only at hu1 he6 HFZ hu;subst hu1;obtain⟨k5,hk5⟩:=zG (z2.length);rw[hk5]at hu;have c0:World.cell? wr ⟨b,off+k*2,none⟩=some (.int .i64 u1):=hcl (k*2) _ (Zbi chI 2 chI_len us k 0 _ hu (by omega));have c1:World.cell? wr ⟨b,off+k*2+1,none⟩=some (.slice A6 k5 c6):=hcl (k*2+1) _ (Zbi chI 2 chI_len us k 1 _ hu (by omega));have HE6:Hid (z2.length=k5/\EvsAt wr B A6 z2):=zh ⟨hk5,he6⟩;have hk6:k5<=6:=by rw[<-hk5];exact HFZ.o.1
   have hk8:(k:Int)<(n:Int):=by omega
   have hk9:(0:Int)<=(k:Int):=by omega
   clear hch hcl hu he6 hb hz hk5
   go_upto_region 5 with (first
    | (refine Zad _ rfl 50 (.tmp 5) (.tmp 14) rfl 0 #[.int .i64 u1,.slice A6 k5 c6] rfl rfl (Blk.new _ _ _) (by show 0+2<=2;omega) Zjn (by simp[Value.oneCell']) ?_;intro w2 hb2 hk2 hs2)
    | fail)
   (try simp only[Exit.inBlock,Exit.then])
   simp only[putA,xq1,xq2,xq3]at hb2;have HB12:Hid (Below wr.heap.size wr w2):=zh ((((Below.refl _ _).alloc (zr _) _).trans (hk2.toBelow (fun i hi=>by rw[hi];exact zr _) (by simp))));obtain⟨cb,hcb⟩:=zG (wr.heap.size);have HC2:Hid (Blk w2 cb 50 #[.int .i64 u1,.slice A6 k5 c6]):=zh (by rw[<-hcb];exact hb2);try rw[hcb]
   have HB2:=zT HBR HB12.o
   have HCC:Hid (∀W,Below w2.heap.size w2 W->World.cell? W ⟨cb,0,none⟩=some (.int .i64 u1)/\World.cell? W ⟨cb,1,none⟩=some (.slice A6 k5 c6)):=zh (fun W hb=>by
    have h:Blk W cb 50 #[.int .i64 u1,.slice A6 k5 c6]:=(hb.block _ HC2.o.lt).trans HC2.o;exact⟨h.cell 0,h.cell 1⟩)
   have HO2:=zh (Ru.Za9 HO.o HB12.o);have HE2:Hid (∀W,Below w2.heap.size w2 W->EvsAt W B A6 z2):=zh (fun W hb=>HE6.o.2.below ((HB12.o.trans (hb.mono HB12.o.size)).mono (Nat.le_trans HBB.o HBR.o.size)));clear hb2 hk2 hs2 c0 c1 hcb;obtain⟨x0,x1⟩:=HCC.o w2 (Below.refl _ _);have HC:=zh (fname_any u1 w2 (HLB.o w2 HB2.o).f);obtain⟨nm,hnm⟩:=zG (whyN u1);have HNZ:Hid (nm.size<=10):=zh (by rw[<-hnm];exact whyN_size u1);have HNM:=zh hnm;rw[hnm]at HC;clear hnm;go_wp2_with fail;refine HC.o.mono ?_;rintro e w3 ⟨rfl,hb3⟩;have HB3:Hid (Below w2.heap.size w2 w3):=zh hb3;clear hb3 HC x0 x1;obtain⟨x0,x1⟩:=HCC.o w3 HB3.o;go_wp2_with fail;clear x0 x1;go_loopw [6,21] (fun sv jv w4=>∃(j:Nat) (s:ByteArray),j<=k5/\jv = .int .i64 j/\sv = .string s/\Hid (evT nm (z2.take j)=s)/\Hid (Below w2.heap.size w2 w4)) (fun _ jv _=>k5 - (intOf jv).toNat)
   case atStart=>exact⟨0,nm,Nat.zero_le _,rfl,rfl,zh rfl,HB3⟩
   case round=>
    obtain⟨j,s,hj,rfl,rfl,HS,HBV⟩:=hrel
    have HLS:Hid (s.size<=18100):=zh (by
     have h1:=evT_size nm HNZ.o (z2.take j) (fun e he=>HFZ.o.2 e (List.mem_of_mem_take he));rw[HS.o,List.length_take]at h1;omega)
    by_cases hlt3:j<k5
    ·obtain⟨y,hy⟩:∃y,z2[j]? = some y:=⟨z2[j]'(by rw[HE6.o.1];exact hlt3),List.getElem?_eq_getElem _⟩
     obtain⟨g5,o5,rfl,hg5,hcl5⟩:=(HE2.o wr HBV.o).at (by rw[HE6.o.1];omega);obtain⟨e0,e1,e2,e3,e4,e5,e6,e7⟩:EvAt wr g5 (o5+j*8) y:=hcl5 j y hy;have HYE:=zh (HFZ.o.2 y (List.mem_of_getElem? hy));have HSN:Hid (evT nm (z2.take (j+1))=s++(plusS++fmtB y)):=zh (by rw[Zbd hy,evT_snoc,HS.o,bt_assoc]);have hj8:(j:Int)<(k5:Int):=by omega
     have hj9:(0:Int)<=(j:Int):=by omega
     clear hcl5 hy hg5
     go_upto_region 9 with (first
      | (refine Zad _ rfl 66 (.tmp 8) (.tmp 24) rfl 0 (evArr y) rfl rfl (Blk.new _ _ _) (by show 0+8<=8;omega) ev_size8 (by simp[evArr,Value.oneCell']) ?_;intro we hbe hke hse)
      | fail)
     (try simp only[Exit.inBlock,Exit.then])
     simp only[evArr,putA,xq1,xq2,xq3]at hbe;have HBE1:Hid (Below wr.heap.size wr we):=zh ((((Below.refl _ _).alloc (zr _) _).trans (hke.toBelow (fun i hi=>by rw[hi];exact zr _) (by simp))));have HBE:=zT HBV HBE1.o;obtain⟨eb,heb⟩:=zG (wr.heap.size);have HEB:Hid (Blk we eb 66 (evArr y)):=zh (by rw[<-heb];exact hbe);try rw[heb]
     clear heb hbe hke hse e0 e1 e2 e3 e4 e5 e6 e7 HBE1;have hlt4:=HLB.o we (HB2.o.trans (HBE.o.mono HB2.o.size));have HC:=zh (formatA_any y we HYE.o hlt4.l.g hlt4.l.k hlt4.l.t);obtain⟨e0,e1,e2,e3,e4,e5,e6,e7⟩:=zC8 HEB.o;obtain⟨fb,hfb⟩:=zG (fmtB y);have hfz:fb.size<=3000:=by rw[<-hfb];exact fmtB_size HYE.o
     have hsz:=HLS.o;have hp3:(⟨#[32,43,32]⟩:ByteArray).size=3:=rfl;have hpf:(⟨#[32,43,32]⟩++fb:ByteArray).size<=3003:=by rw[ByteArray.size_append];omega
     rw[hfb]at HC HSN;unfold evA at HC;unfold plusS at HSN;clear hfb hlt4;go_wp2_with fail;refine HC.o.mono ?_;rintro e w5 ⟨rfl,hb5⟩;have HB5:=zT HBE hb5;clear hb5 HC e0 e1 e2 e3 e4 e5 e6 e7;go_wp2_with fail;go_roundw
     case rel=>exact⟨j+1,_,by omega,by go_num,rfl,HSN,HB5⟩
     case measure=>simp[intOf];omega
    ·obtain rfl:j=k5:=by omega
     have hjj:¬(j:Int)<(j:Int):=by omega
     have HS2:Hid (evT nm z2=s):=zh (by rw[<-HS.o,<-HE6.o.1,List.take_length]);obtain⟨w4,rfl⟩:=zH wr;obtain⟨x0,x1⟩:=HCC.o w4 HBV.o;have hsz:=HLS.o;have hn5:(⟨#[32,110,111,110,101]⟩:ByteArray).size=5:=rfl;clear hlt3;go_upto_if 34 with fail;go_cut [6] (fun v wx=>v = .string (chT (u1,z2))/\wx=w4)
     case first=>
      by_cases h0:j=0
      ·have d0:((j:Int) == 0)=true:=by rw[beq_iff_eq];omega
       have HF:Hid (chT (u1,z2)=s++⟨#[32,110,111,110,101]⟩):=zh (by
        have h2:z2 = []:=List.length_eq_zero_iff.1 (by rw[HE6.o.1,h0]);unfold chT;rw[if_pos h2,HNM.o,HS2.o]
        rfl)
       clear h0;go_wp2_with fail;go_meet;exact⟨by rw[HF.o],by first|rfl|trivial⟩
      ·have d0:((j:Int) == 0)=false:=by rw[beq_eq_false_iff_ne];omega
       have HF:Hid (chT (u1,z2)=s):=zh (by
        have h2:z2≠[]:=fun e=>h0 (by rw[<-HE6.o.1,e];rfl);unfold chT;rw[if_neg h2,HNM.o,HS2.o])
       clear h0;go_wp2_with fail;go_meet;exact⟨by rw[HF.o],by first|rfl|trivial⟩
     case rest=>
     obtain⟨rfl,rfl⟩:=hcut;obtain⟨w4,rfl⟩:=zH wc;obtain⟨ct,hct⟩:=zG (chT (u1,z2));have HCT:=zh hct;rw[hct];clear hct;have HOC:=zh (Ru.Za9 HO2.o HBV.o);have HZR:Hid (w.heap.size<=w4.heap.size+1):=zh (by have:=HB2.o.size;have:=HBV.o.size;omega);have hzr:=HZR.o;have hm8:m<=8:=by omega
     go_wp2_with (first
      | (at_builtin;refine Zaa _ rfl _ _ 62 rfl w.heap.size 9 i0 _ 1 16 Tryz.underlying62 hi0 hz0 hz1 hz2 rfl (by omega) (.slice A5 m c5) m _ rfl (HOC.o.alloc _) (w4.heap.size+1) (some ⟨w4.heap.size,0,none⟩) 1 1 [.string ct] rfl (Zit w4 ct _) (fun h=>by cases h) (fun u hu=>by rw[List.mem_singleton]at hu;subst hu;rfl) (by unfold maxLen;omega) (by omega) (by simp;omega) ?_;intro v7 w7 ho7 hg7 hv7)
      | fail)
     obtain⟨A7,c7,rfl⟩:=own_shape ho7;have HO7:=zh ho7;have HBW4:=zT HB2 HBV.o;have HB7:Hid (Below w.heap.size w w7):=zh ((HBW4.o.alloc HBW4.o.size _).grown hg7 (HBW4.o.alloc HBW4.o.size _).size (fun j hj=>(Zd1 HOC.o hj).1));clear ho7 hg7 hv7;go_wp2_with fail;go_roundw
     case rel=>exact⟨k+1,m+1,A7,c7,by omega,by omega,by go_num,rfl,zh (by rw[HMK.o]),zh (fun h=>by omega),zh (by rw[HZK.o,List.map_append,List.map_append,List.map_singleton,List.map_singleton,HCT.o];exact HO7.o),HB7⟩
     case measure=>simp[intOf];omega
  ·obtain rfl:n=k:=by omega
   have hkk:¬(n:Int)<(n:Int):=by omega
   obtain rfl:m=n:=HMK.o;have HTX:Hid (((cl.take m).map chT)=cl.map chT):=zh (by rw[<-HN.o,List.take_length]);obtain⟨xs,hxs⟩:=zG (cl.map chT);have HXL:Hid (xs.length=m):=zh (by rw[<-hxs,List.length_map,HN.o]);have HXS:Hid (textW cl=joinB xs):=zh (by unfold textW;rw[hxs]);have HJS:Hid ((joinB xs).size<=144900):=zh (by rw[<-HXS.o];exact textW_size (by rw[HN.o];exact hn) HFW.o);rw[HTX.o,hxs]at HO;clear hlt hxs;by_cases h0:m=0
   ·obtain⟨rfl,rfl⟩:=HNIL.o h0;subst h0;have HC:=zh (join_none ⟨#[59,32]⟩ wr);have HE0:Hid (textW cl=⟨#[]⟩):=zh (by rw[HXS.o,List.length_eq_zero_iff.1 HXL.o];rfl);clear HNIL;go_wp2_with fail;refine HC.o.mono ?_;rintro e w5 ⟨rfl,hb5⟩;have HB5:=zT HBR hb5;clear hb5 HC;go_wp2_with fail;go_ret;exact⟨by first|(rw[HE0.o];done)|(rw[HE0.o];rfl),HB5.o⟩
   ·obtain⟨g,cap,hv,hgb,hgl⟩:=HO.o.form (by omega);injection hv with hv1 _ hv2;subst hv1 hv2;have hcm:=(Zks HO.o).1
    have HC:=zh (Ru.Zpr g 0 c5 xs ⟨#[59,32]⟩ wr (fun j x hx=>by
     have h:=HO.o.cells (g:=g) rfl j (.string x) (by simp[hx])
     rwa [at_add]at h) hgl (by rw[HXL.o];omega) (by rw[HXL.o];exact hcm) (by
     have h1:(joinB xs).size=(Lib.join (xs.map (·.data.toList)) semiS.data.toList).length:=by
      unfold joinB;show (List.toArray _).size=_;simp
     have h2:=HJS.o;rw[h1]at h2;have h3:(⟨#[59,32]⟩:ByteArray).data.toList=semiS.data.toList:=rfl;rw[h3];omega))
    rw[HXL.o]at HC;have HR:Hid ((⟨(Lib.join (xs.map (·.data.toList)) (⟨#[59,32]⟩:ByteArray).data.toList).toArray⟩:ByteArray)=textW cl):=zh (by rw[HXS.o];rfl);clear HNIL hgb hgl hcm h0;go_wp2_with fail;refine HC.o.mono ?_;rintro e w5 ⟨rfl,hb5⟩;have HB5:=zT HBR hb5;clear hb5 HC;go_wp2_with fail;go_ret;exact⟨by first|(rw[HR.o];done)|(rw[HR.o];rfl),HB5.o⟩
end Go.Proofs.YtphmhbcimhlcjaaGreatDoor
namespace Go.Proofs.YtphmhbcimhlcjaaGreatDoor
open Go.Shelf Go.RowKit Go.Maps
theorem whyN_in {q:Nat}(h:q<7):∃nm,whysL[q]? = some nm/\whyN (q:Int)=nm:=by
 obtain⟨nm,hnm⟩:∃nm,whysL[q]? = some nm:=⟨whysL[q]'(by show q<7;exact h),List.getElem?_eq_getElem _⟩
 refine⟨nm,hnm,?_⟩;unfold whyN;rw[if_pos (by omega),Int.toNat_natCast,List.getD_eq_getElem?_getD,hnm]
 rfl
theorem whyN_out {y:Int}(h:¬(0<=y/\y<7)):whyN y=⟨#[]⟩:=if_neg h
theorem rtext_any (w:World)(B:Nat)(A:Option Addr)(n c:Nat)(us:List (Int×Value))(cl:List (Int×List Ev))(h:ChsAt w B A n c us cl)(hB:B<=w.heap.size)(hn:n<=8)(hf:ChFew cl) :
  Calls Tryz.prog 18 #[.slice A n c] w fun e w'=>e = .returned (.string (textW cl))/\Below w.heap.size w w':=by
 have HN:=zh h.len;have HCH:Hid (∀W,Below w.heap.size w W->ChsAt W B A n c us cl):=zh (fun W hb=>h.below (hb.mono hB));have HFW:=zh hf;obtain⟨w1,hw1⟩:=zG (w.alloc (.cells (whysL.map Value.string).toArray 9));obtain⟨nb,hnb⟩:=zG (w.heap.size);have HX1:Hid (Blk w1 nb 9 (whysL.map Value.string).toArray):=zh (by rw[<-hw1,<-hnb];exact Blk.new _ _ _);have HB1:=zA hw1
 have HNB:Hid (∀W j x,Below w1.heap.size w1 W->whysL[j]? = some x->World.cell? W ⟨nb,j,none⟩=some (.string x)):=zh (fun W j x hb hx=>by
  have h:Blk W nb 9 (whysL.map Value.string).toArray:=(hb.block _ HX1.o.lt).trans HX1.o;rw[h.cell j];simp[hx])
 have HNQ:=zh hnb;unfold whysL at hw1;simp only[List.map_cons,List.map_nil]at hw1;clear h hB hf;go_enter Tryz.func18,Tryz.ntmps18;go_upto_region 2 with fail;try rw[hnb]
 try rw[hw1]
 clear hw1 hnb;go_wp2_with fail;go_loopw [4,5] (fun tv iv wr=>∃(k:Nat) (t:ByteArray),k<=n/\iv = .int .i64 k/\tv = .string t/\Hid (textW (cl.take k)=t)/\Hid (Below w1.heap.size w1 wr)) (fun _ iv _=>n - (intOf iv).toNat)
 case atStart=>exact⟨0,⟨#[]⟩,Nat.zero_le _,rfl,rfl,zh rfl,zh (Below.refl _ _)⟩
 case round=>
  obtain⟨k,t,hk,rfl,rfl,HT,HBR⟩:=hrel
  have HTZ:Hid (t.size<=144900):=zh (by
   rw[<-HT.o];exact textW_size (by rw[List.length_take,HN.o];omega) (fun x hx=>HFW.o x (List.mem_of_mem_take hx)))
  by_cases hlt:k<n
  ·obtain⟨z,hz⟩:∃z,cl[k]? = some z:=⟨cl[k]'(by rw[HN.o];exact hlt),List.getElem?_eq_getElem _⟩
   have HWB:Hid (∀W,Below w1.heap.size w1 W->Below w.heap.size w W):=zh (fun W hb=>HB1.o.trans (hb.mono HB1.o.size));have hch:=HCH.o wr (HWB.o wr HBR.o);obtain⟨u,hu⟩:∃u,us[k]? = some u:=⟨us[k]'(by rw[hch.ins.1,HN.o];exact hlt),List.getElem?_eq_getElem _⟩
   obtain⟨b,off,rfl,hb,hcl⟩:=hch.row.at (by omega);obtain⟨hu1,A6,c6,hu2,he6⟩:=hch.ins.2 k u z hu hz;obtain⟨u1,u2⟩:=u;dsimp only at hu1 hu2;subst hu2;have HFZ:=zh (HFW.o z (List.mem_of_getElem? hz));have HZK:Hid (textW (cl.take (k+1))=(if cl.take k = [] then ⟨#[]⟩ else textW (cl.take k)++semiS)++chT z):=zh (by rw[Zbd hz,textW_snoc]);obtain⟨z1,z2⟩:=z;dsimp only at hu1 he6 HFZ hu;subst hu1;obtain⟨k5,hk5⟩:=zG (z2.length);rw[hk5]at hu
   have HCC:Hid (∀W,Below w1.heap.size w1 W->World.cell? W ⟨b,off+k*2,none⟩=some (.int .i64 u1)/\World.cell? W ⟨b,off+k*2+1,none⟩=some (.slice A6 k5 c6)):=zh (fun W hb=>by
    obtain⟨b',off',hA,_,hcl⟩:=(HCH.o W (HWB.o W hb)).row.at (by omega);cases hA;exact⟨hcl (k*2) _ (Zbi chI 2 chI_len us k 0 _ hu (by omega)),hcl (k*2+1) _ (Zbi chI 2 chI_len us k 1 _ hu (by omega))⟩)
   have HE6:Hid (z2.length=k5):=zh hk5
   have HE2:Hid (∀W,Below w1.heap.size w1 W->EvsAt W B A6 z2):=zh (fun W hb=>by
    obtain⟨_,A',cp,q2,q3⟩:=(HCH.o W (HWB.o W hb)).ins.2 k _ _ hu hz;cases q2;exact q3)
   have hk6:k5<=6:=by rw[<-hk5];exact HFZ.o.1
   have hk8:(k:Int)<(n:Int):=by omega
   have hk9:(0:Int)<=(k:Int):=by omega
   have hs2:(⟨#[59,32]⟩:ByteArray).size=2:=rfl;have htz:=HTZ.o;clear hch hcl he6 hb hz hk5;obtain⟨t1,ht1⟩:=zG ((if cl.take k = [] then ⟨#[]⟩ else textW (cl.take k)++semiS):ByteArray)
   have HT1Z:Hid (t1.size<=144902):=zh (by
    rw[<-ht1];split
    ·exact Nat.zero_le _
    ·rw[ByteArray.size_append,HT.o];have:semiS.size=2:=rfl;omega)
   have HT1:Hid (t1=if k=0 then ⟨#[]⟩ else t++⟨#[59,32]⟩):=zh (by
    rw[<-ht1,HT.o];by_cases h0:k=0
    ·subst h0;rw[if_pos (by simp),if_pos rfl]
    ·rw[if_neg (fun e=>h0 (by
      have h1:=congrArg List.length e;rw[List.length_take,HN.o,List.length_nil]at h1;omega)),if_neg h0]
     rfl)
   have HT0:Hid (k=0->t=⟨#[]⟩):=zh (fun h=>by rw[<-HT.o,h];rfl);rw[ht1]at HZK;clear ht1;go_upto_if 15 with fail;go_cut [4] (fun v wx=>v = .string t1/\wx=wr)
   case first=>
    by_cases h0:k=0
    ·have d0:decide ((0:Int)<(k:Int))=false:=decide_eq_false (by omega);have n0:¬(0:Int)<(k:Int):=by omega
     have d1:decide (0<k)=false:=decide_eq_false (by omega);have HF:Hid (t=t1):=zh (by rw[HT1.o,if_pos h0];exact HT0.o h0);clear h0;go_wp2_with fail;go_meet;exact⟨by rw[HF.o],by first|rfl|trivial⟩
    ·have d0:decide ((0:Int)<(k:Int))=true:=decide_eq_true (by omega);have n0:(0:Int)<(k:Int):=by omega
     have d1:decide (0<k)=true:=decide_eq_true (by omega);have HF:Hid (t++⟨#[59,32]⟩=t1):=zh (by rw[HT1.o,if_neg h0]);clear h0;go_wp2_with fail;go_meet;exact⟨by rw[HF.o],by first|rfl|trivial⟩
   case rest=>
   obtain⟨rfl,rfl⟩:=hcut;obtain⟨wc2,rfl⟩:=zH wc;obtain⟨nm,hnm⟩:=zG (whyN u1);have HNZ:Hid (nm.size<=10):=zh (by rw[<-hnm];exact whyN_size u1);have HNM:=zh hnm;have ht1z:=HT1Z.o;obtain⟨x0,x1⟩:=HCC.o wc2 HBR.o;clear hnm;go_upto_region 8 with fail;go_cut [31] (fun v wx=>v = .bool (decide (0<=u1/\u1<7))/\wx=wc2)
   case first=>
    by_cases hy0:0<=u1
    ·have d0:decide ((0:Int)<=u1)=true:=decide_eq_true hy0;by_cases hy7:u1<7
     ·have d1:decide (u1<7)=true:=decide_eq_true hy7;have HF:Hid (decide (0<=u1/\u1<7)=true):=zh (decide_eq_true ⟨hy0,hy7⟩);go_wp2_with fail;go_meet;exact⟨by rw[HF.o],by first|rfl|trivial⟩
     ·have d1:decide (u1<7)=false:=decide_eq_false hy7;have HF:Hid (decide (0<=u1/\u1<7)=false):=zh (decide_eq_false (fun h=>hy7 h.2));go_wp2_with fail;go_meet;exact⟨by rw[HF.o],by first|rfl|trivial⟩
    ·have d0:decide ((0:Int)<=u1)=false:=decide_eq_false hy0;have HF:Hid (decide (0<=u1/\u1<7)=false):=zh (decide_eq_false (fun h=>hy0 h.1));go_wp2_with fail;go_meet;exact⟨by rw[HF.o],by first|rfl|trivial⟩
   case rest=>
   obtain⟨rfl,rfl⟩:=hcut;obtain⟨wc2,rfl⟩:=zH wc;obtain⟨yb,hyb⟩:=zG (decide (0<=u1/\u1<7));have HYB:=zh hyb;rw[hyb];clear hyb x0 x1;obtain⟨x0,x1⟩:=HCC.o wc2 HBR.o;go_upto_if 31 with fail;go_cut [4] (fun v wx=>v = .string (t1++nm)/\wx=wc2)
   case first=>
    cases yb with
    | true=>
     have hyy:=of_decide_eq_true HYB.o;obtain⟨q,rfl⟩:∃q:Nat,u1=q:=⟨u1.toNat,by omega⟩
     obtain⟨nm',h1,h2⟩:=whyN_in (show q<7 by omega);obtain rfl:nm'=nm:=h2.symm.trans HNM.o;have n1:(q:Int)<7:=by omega
     have n2:(0:Int)<=(q:Int):=by omega
     have y0:=HNB.o wc2 q nm' HBR.o h1;have hnz:=HNZ.o;clear h1 h2 hyy;go_wp2_with fail;go_meet;exact⟨rfl,by first|rfl|trivial⟩
    | false=>
     have HF:Hid (t1++nm=t1):=zh (by rw[<-HNM.o,whyN_out (of_decide_eq_false HYB.o),bt_nil]);go_wp2_with fail;go_meet;exact⟨by rw[HF.o],by first|rfl|trivial⟩
   case rest=>
   obtain⟨rfl,rfl⟩:=hcut;obtain⟨wn,rfl⟩:=zH wc;have HFE:Hid (∀l,evT (t1++nm) l=t1++evT nm l):=zh (fun l=>evT_app t1 nm l);obtain⟨t2,ht2⟩:=zG (t1++nm);have HT2Z:Hid (t2.size<=144912):=zh (by rw[<-ht2,ByteArray.size_append];have:=HT1Z.o;have:=HNZ.o;omega);rw[ht2]at HFE ⊢;clear ht2 x0 x1;go_wp2_with fail;go_loopw [4,6] (fun sv jv w4=>∃(j:Nat) (s:ByteArray),j<=k5/\jv = .int .i64 j/\sv = .string s/\Hid (evT t2 (z2.take j)=s)/\Hid (Below w1.heap.size w1 w4)) (fun _ jv _=>k5 - (intOf jv).toNat)
   case atStart=>exact⟨0,t2,Nat.zero_le _,rfl,rfl,zh rfl,HBR⟩
   case round=>
    obtain⟨j,s,hj,rfl,rfl,HS,HBV⟩:=hrel
    have HLS:Hid (s.size<=163000):=zh (by
     have h1:=evT_size t2 HT2Z.o (z2.take j) (fun e he=>HFZ.o.2 e (List.mem_of_mem_take he));rw[HS.o,List.length_take]at h1;omega)
    obtain⟨w4,rfl⟩:=zH wr;obtain⟨x0,x1⟩:=HCC.o w4 HBV.o;have hsz:=HLS.o;by_cases hlt3:j<k5
    ·obtain⟨y,hy⟩:∃y,z2[j]? = some y:=⟨z2[j]'(by rw[HE6.o];exact hlt3),List.getElem?_eq_getElem _⟩
     obtain⟨g5,o5,rfl,hg5,hcl5⟩:=(HE2.o w4 HBV.o).at (by rw[HE6.o];omega)
     have HEC:Hid (∀W,Below w1.heap.size w1 W->EvAt W g5 (o5+j*8) y):=zh (fun W hb=>by
      obtain⟨g',o',hA,_,hcl⟩:=(HE2.o W hb).at (by rw[HE6.o];omega);cases hA;exact hcl j y hy)
     obtain⟨e0,e1,e2,e3,e4,e5,e6,e7⟩:=HEC.o w4 HBV.o;have HYE:=zh (HFZ.o.2 y (List.mem_of_getElem? hy));have HSN:Hid (evT t2 (z2.take (j+1))=s++plusS++fmtB y):=zh (by rw[Zbd hy,evT_snoc,HS.o]);have hj8:(j:Int)<(k5:Int):=by omega
     have hj9:(0:Int)<=(j:Int):=by omega
     have hp3:(⟨#[32,43,32]⟩:ByteArray).size=3:=rfl;have hsp:(s++⟨#[32,43,32]⟩:ByteArray).size<=163003:=by rw[ByteArray.size_append];omega
     have HC:=zh (Zqo y w4 ⟨by have:=HYE.o.1;omega,by have:=HYE.o.2.1;omega,by have:=HYE.o.2.2.1;omega,by have:=HYE.o.2.2.2;omega⟩);unfold plusS at HSN;obtain⟨mb,hmb⟩:=zG (mayB y);have HMB:=zh hmb;rw[hmb]at HC;clear hcl5 hy hg5 hmb;have HC':=HC;unfold evA at HC;go_wp2_with fail;refine HC.o.mono ?_;rintro e w5 ⟨rfl,hb5⟩;have HB5:=zT HBV hb5;clear hb5 HC HC' x0 x1 e0 e1 e2 e3 e4 e5 e6 e7;obtain⟨x0,x1⟩:=HCC.o w5 HB5.o;obtain⟨e0,e1,e2,e3,e4,e5,e6,e7⟩:=HEC.o w5 HB5.o;cases mb with
     | false=>
      have HF:Hid (evT t2 (z2.take (j+1))=s++⟨#[32,43,32]⟩):=zh (by
       rw[HSN.o];unfold fmtB;rw[if_neg (by rw[HMB.o];exact Bool.false_ne_true),bt_nil])
      go_wp2_with fail;go_roundw
      case rel=>exact⟨j+1,_,by omega,by go_num,rfl,HF,HB5⟩
      case measure=>simp[intOf];omega
     | true=>
      have HC:=zh (rformat_any y w5 ⟨HMB.o,HYE.o⟩);obtain⟨fb,hfb⟩:=zG (fmtJ y)
      have HF:Hid (evT t2 (z2.take (j+1))=s++⟨#[32,43,32]⟩++fb):=zh (by
       rw[HSN.o,Znu ⟨HMB.o,HYE.o⟩,hfb])
      have hfz:fb.size<=3000:=by rw[<-hfb,<-Znu ⟨HMB.o,HYE.o⟩];exact fmtB_size HYE.o
      rw[hfb]at HC;unfold evA at HC;clear hfb;go_wp2_with fail;refine HC.o.mono ?_;rintro e w6 ⟨rfl,hb6⟩;have HB6:=zT HB5 hb6;clear hb6 HC;go_wp2_with fail;go_roundw
      case rel=>exact⟨j+1,_,by omega,by go_num,rfl,HF,HB6⟩
      case measure=>simp[intOf];omega
    ·obtain rfl:j=k5:=by omega
     have hjj:¬(j:Int)<(j:Int):=by omega
     have HS2:Hid (t1++evT nm z2=s):=zh (by rw[<-HFE.o,<-HS.o,<-HE6.o,List.take_length]);have hn5:(⟨#[32,110,111,110,101]⟩:ByteArray).size=5:=rfl;clear hlt3;by_cases h0:j=0
     ·have d0:((j:Int) == 0)=true:=by rw[beq_iff_eq];omega
      have HF:Hid (textW (cl.take (k+1))=s++⟨#[32,110,111,110,101]⟩):=zh (by
       have h2:z2 = []:=List.length_eq_zero_iff.1 (by rw[HE6.o,h0]);rw[HZK.o,<-HS2.o];unfold chT;rw[if_pos h2,HNM.o,bt_assoc]
       rfl)
      clear h0;go_wp2_with fail;go_roundw
      case rel=>exact⟨k+1,_,by omega,by go_num,rfl,HF,HBV⟩
      case measure=>simp[intOf];omega
     ·have d0:((j:Int) == 0)=false:=by rw[beq_eq_false_iff_ne];omega
      have HF:Hid (textW (cl.take (k+1))=s):=zh (by
       have h2:z2≠[]:=fun e=>h0 (by rw[<-HE6.o,e];rfl);rw[HZK.o,<-HS2.o];unfold chT;rw[if_neg h2,HNM.o])
      clear h0;go_wp2_with fail;go_roundw
      case rel=>exact⟨k+1,_,by omega,by go_num,rfl,HF,HBV⟩
      case measure=>simp[intOf];omega
  ·obtain rfl:n=k:=by omega
   have hkk:¬(n:Int)<(n:Int):=by omega
   have HTX:Hid (textW cl=t):=zh (by rw[<-HT.o,<-HN.o,List.take_length]);clear hlt;go_wp2_with fail;go_ret;exact⟨by first|(rw[HTX.o];done)|(rw[HTX.o];rfl),HB1.o.trans (HBR.o.mono HB1.o.size)⟩
end Go.Proofs.YtphmhbcimhlcjaaGreatDoor
namespace Go.Proofs.YtphmhbcimhlcjaaGreatDoor
open Go.ChangeShapes Go.WideShapes Go.RowKit
structure ChArg (w:World) (A:Option Addr) (n c:Nat) (us:List (Int×Value)) (l:List (Int×List Ev)):Prop where
 at_:ChsAt w w.heap.size A n c us l
 few:n<=140737488355328
 ins:∀x∈l,x.2.length<=140737488355328/\∀e∈x.2,EvBd e
section
variable {H : Type} {enc : TypeId × Value -> H} {w : World} {base : Nat} {spare : Nat -> Bool} {held : Bool}
theorem chs_of {fuel:Nat}{a:Option Addr}{len cap:Nat}{x:DataW H×List MemPlace}
  (h:DataW.trod enc Tryz.prog w base spare held fuel 43 [.slice a len cap]=some x) (hw:∀n∈x.1.weights Tryz.prog 43,n<=reachBytes) :
  ∃us l,ChArg w a len cap us l:=by
 rcases Zeg Tryz.underlying43 Tryz.underlying50 (by kernel_rfl) (by kernel_rfl) h with ⟨hcs,_⟩|⟨ad,n,c,m,D,Pl,hcs,_,hl,hm,hmm,hx,hi⟩
 ·simp at hcs;obtain⟨rfl,rfl,rfl⟩:=hcs;exact⟨[],[],⟨rfl,RowIn.nil _ _ _ _,rfl,fun k u x h=>by simp at h⟩,Nat.zero_le _,fun y hy=>(by cases hy)⟩
 ·simp at hcs;obtain⟨rfl,rfl,rfl⟩:=hcs;have hlm:len<=m:=by rw[hmm];split <;> omega
  have hbo:Tryz.prog.bytesOf 50 = 32:=by kernel_rfl
  have hlen:len<=140737488355328:=by
   have h1:=hw ((len+(m - len))*32) (by rw[hx];simp[DataW.weights,Tryz.underlying43,hbo]);unfold reachBytes at h1;omega
  obtain⟨l,h1,h2⟩:=Zn3 (α:=(Int×Value)×(Int×List Ev)) (p:=fun i y=>(∃b off,some ad=some ⟨b,off,none⟩/\b<w.heap.size/\w.cell? ⟨b,off+i*2,none⟩=some (.int .i64 y.1.1)/\w.cell? ⟨b,off+i*2+1,none⟩=some y.1.2)/\ChiIn w w.heap.size y.1 y.2/\y.2.2.length<=140737488355328/\∀e∈y.2.2,EvBd e) len (fun i hil=>by
   obtain⟨ys,n',hD,_,hys,hf⟩:=hi i (by omega);obtain⟨v0,y0,e0,g0,t0⟩:=hf 0 _ rfl;obtain⟨v1,y1,e1,g1,t1⟩:=hf 1 _ rfl;obtain⟨x0,hv0,_,_⟩:=DataW.trod_int Tryz.underlying48 t0;simp at hv0;subst hv0;have t1':DataW.trod enc Tryz.prog w base spare held n' 22 [v1]=some y1:=t1;obtain⟨A,ln,cp,rfl⟩:∃A ln cp,v1 = .slice A ln cp:=by
    rcases Zeg Tryz.underlying22 Tryz.underlying66 (by kernel_rfl) (by kernel_rfl) t1' with ⟨hcs,_⟩|⟨ad,n,c,m,D,Pl,hcs,_⟩
    ·exact⟨none,0,0,by injection hcs⟩
    ·exact⟨some ad,n,c,by injection hcs⟩
   have hin:D i∈(List.range len).map D:=List.mem_map.2 ⟨i,List.mem_range.2 hil,rfl⟩
   have hwD:∀k∈(D i).weights Tryz.prog 50,k<=reachBytes:=fun k hk=>hw k (by
    rw[hx];simp only[DataW.weights,Tryz.underlying43,List.mem_cons,List.mem_append];exact Or.inr (Or.inl (Zdb hk hin)))
   obtain⟨le,q1,q2,q3,q4,q5,_⟩:=evs_of t1' (fun k hk=>hwD k (by
    rw[hD];simp only[DataW.weights,Tryz.underlying50];exact DataW.weights_mem_each (j:=1) (t:=22) (d:=y1.1) rfl (by simp[g1]) _ hk))
   obtain⟨_,_,_,_,_,hf0⟩:=hi 0 (by omega);obtain⟨u0,_,d0,_,_⟩:=hf0 0 _ rfl;have hsp:ad.spot=none:=World.cell?_spot (by simpa [Addr.add] using d0);obtain⟨b,off,spot⟩:=ad;have hs2:spot=none:=hsp;subst hs2;have e0':w.cell? ((⟨b,off,none⟩:Addr).add (i*2+0))=some (.int .i64 x0):=e0;have e1':w.cell? ((⟨b,off,none⟩:Addr).add (i*2+1))=some (.slice A ln cp):=e1;rw[Zqr]at e0' e1';refine⟨((x0,.slice A ln cp),(x0,le)),⟨b,off,rfl,cell_lt (a:=⟨b,_,none⟩) e0',by simpa using e0',by rw[Nat.add_assoc];exact e1'⟩,⟨rfl,A,cp,by rw[q1],q3⟩,by rw[q1];exact q2,q5⟩)
  refine⟨l.map (·.1),l.map (·.2),⟨by rw[List.length_map,h1],?_,by rw[List.length_map,List.length_map],fun k u x hu hx=>?_⟩,hlen,fun x hx=>?_⟩
  ·have hlm2:(l.map (·.1)).length=l.length:=List.length_map _;refine⟨by rw[Zc2 chI 2 chI_len,hlm2,h1],?_⟩;rcases Nat.eq_zero_or_pos l.length with h0|h0
   ·exact Or.inl (by rw[<-h1];exact h0)
   ·obtain⟨⟨b,off,hA,hb,_⟩,_⟩:=h2 0 (l[0]'h0) (List.getElem?_eq_getElem h0);refine Or.inr ⟨b,off,hA,hb,fun j u hu=>?_⟩;have hj:j<l.length*2:=by
     have:=(List.getElem?_eq_some_iff.1 hu).1
     rwa [Zc2 chI 2 chI_len,hlm2]at this
    have hq:j / 2<l.length:=by omega
    obtain⟨⟨b',off',hA',_,c0,c1⟩,_⟩:=h2 (j / 2) (l[j / 2]'hq) (List.getElem?_eq_getElem hq);rw[hA]at hA';injection hA' with hA';injection hA' with hb' ho';subst hb' ho';have hg:=Zbi chI 2 chI_len (l.map (·.1)) (j / 2) (j % 2) (l[j / 2]'hq).1 (by simp[hq]) (by omega);rw[show j / 2*2+j % 2=j from by omega,hu]at hg;have h4:j % 2=0\/j % 2=1:=by omega
    rcases h4 with h4|h4 <;> rw[h4]at hg <;> simp[chI]at hg <;> subst hg
    ·rw[show off+j=off+j / 2*2 from by omega];exact c0
    ·rw[show off+j=off+j / 2*2+1 from by omega];exact c1
  ·rw[List.getElem?_map]at hu hx;cases hk:l[k]? with
   | none=>rw[hk]at hu;cases hu
   | some y=>
    rw[hk]at hu hx;cases hu;cases hx;exact (h2 k y hk).2.1
  ·obtain⟨y,hy,rfl⟩:=List.mem_map.1 hx;obtain⟨k,hk⟩:=List.mem_iff_getElem?.1 hy;exact (h2 k y hk).2.2
end
end Go.Proofs.YtphmhbcimhlcjaaGreatDoor
