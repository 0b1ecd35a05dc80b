/- WhynotTexts: the walk. -/
import Derived.Test.YtphmhbcimhlcjaaGreatDoorBt
namespace Go.Proofs.YtphmhbcimhlcjaaGreatDoor
open Go.Shelf Go.RowKit Go.Maps
set_option linter.unusedVariables false
set_option maxHeartbeats 8000000 in
set_option maxRecDepth 100000 in
theorem whynotTexts_walk (A:Option Addr)(n c:Nat)(us:List (Int×Value))(cl:List (Int×List Ev))(w:World)(h:ChArg w A n c us cl)(hl:TxL w):Calls Tryz.prog 4 #[.slice A n c] w (TrueR w):=by
 have HA:=zh h;have HLB:Hid (∀W,Below w.heap.size w W->TxL W):=zh (fun W hb=>hl.keep hb);have HAW:Hid (∀W,Below w.heap.size w W->Calls Tryz.prog 6 #[] W fun e w'=>e = .returned (.bool true)/\Below W.heap.size W w'):=zh (fun W hb=>awake41_any W (hl.keep hb).l);have hnb:=h.few;clear h hl;go_enter Tryz.func4,Tryz.ntmps4;by_cases h8:8<n
 ·have d8:decide ((8:Int)<(n:Int))=true:=decide_eq_true (by omega);have n8:(8:Int)<(n:Int):=by omega
  have d8':decide (8<n)=true:=decide_eq_true h8;have HC:=zh (HAW.o w (Below.refl _ _));clear h8;go_wp2_with fail;refine HC.o.mono ?_;rintro e w1 ⟨rfl,hb1⟩;have HB1:=zh hb1;clear hb1 HC;go_wp2_with fail;go_ret;exact⟨rfl,HB1.o⟩
 have d8:decide ((8:Int)<(n:Int))=false:=decide_eq_false (by omega);have n8:¬(8:Int)<(n:Int):=by omega
 have d8':decide (8<n)=false:=decide_eq_false h8;have hn8:n<=8:=by omega
 clear h8;go_wp2_with fail;clear d8 n8 d8';go_loopw [11] (fun iv wr=>∃k:Nat,k<=n/\iv = .int .i64 k/\Hid (∀(j:Nat) x,j<k->cl[j]? = some x->x.2.length<=6/\∀e∈x.2,EvSmall e)/\Hid (Below w.heap.size w wr)) (fun iv _=>n - (intOf iv).toNat)
 case atStart=>exact⟨0,Nat.zero_le _,rfl,zh (fun j x hj=>by omega),zh (Below.refl _ _)⟩
 case round=>
  obtain⟨k,hk,rfl,HOK,HBR⟩:=hrel;by_cases hlt:k<n
  ·obtain⟨z,hz⟩:∃z,cl[k]? = some z:=⟨cl[k]'(by rw[HA.o.at_.len];exact hlt),List.getElem?_eq_getElem _⟩
   have hch:=HA.o.at_.below HBR.o;obtain⟨u,hu⟩:∃u,us[k]? = some u:=⟨us[k]'(by rw[hch.ins.1,HA.o.at_.len];exact hlt),List.getElem?_eq_getElem _⟩
   obtain⟨b,off,rfl,hb,hcl⟩:=hch.row.at (by omega);obtain⟨hu1,A6,c6,hu2,he6⟩:=hch.ins.2 k u z hu hz;obtain⟨u1,u2⟩:=u;dsimp only at hu1 hu2;subst hu2;have HIZ:=zh (HA.o.ins z (List.mem_of_getElem? hz));have HZ:=zh hz;obtain⟨z1,z2⟩:=z;dsimp only at hu1 he6 HIZ hu;subst hu1;obtain⟨k5,hk5⟩:=zG (z2.length);rw[hk5]at hu;have c0:World.cell? wr ⟨b,off+k*2,none⟩=some (.int .i64 u1):=hcl (k*2) _ (Zbi chI 2 chI_len us k 0 _ hu (by omega));have c1:World.cell? wr ⟨b,off+k*2+1,none⟩=some (.slice A6 k5 c6):=hcl (k*2+1) _ (Zbi chI 2 chI_len us k 1 _ hu (by omega));have HE6:Hid (z2.length=k5/\EvsAt wr w.heap.size A6 z2/\k5<=140737488355328):=zh ⟨hk5,he6,by rw[<-hk5];exact HIZ.o.1⟩;have hk8:(k:Int)<(n:Int):=by omega
   have hk9:(0:Int)<=(k:Int):=by omega
   clear hch hcl hu he6 hb hz hk5
   go_upto_region 6 with (first
    | (refine Zad _ rfl 50 (.tmp 4) (.tmp 14) rfl 0 #[.int .i64 u1,.slice A6 k5 c6] rfl rfl (Blk.new _ _ _) (by show 0+2<=2;omega) Zjn (by simp[Value.oneCell']) ?_;intro w2 hb2 hk2 hs2)
    | fail)
   (try simp only[Exit.inBlock,Exit.then])
   simp only[putA,List.setIfInBounds_toArray,List.set_cons_zero,List.set_cons_succ]at hb2;have HB12:Hid (Below wr.heap.size wr w2):=zh ((((Below.refl _ _).alloc (zr _) _).trans (hk2.toBelow (fun i hi=>by rw[hi];exact zr _) (by simp))));obtain⟨cb,hcb⟩:=zG (wr.heap.size);have HC2:Hid (Blk w2 cb 50 #[.int .i64 u1,.slice A6 k5 c6]):=zh (by rw[<-hcb];exact hb2);try rw[hcb]
   have HB2:=zT HBR HB12.o;clear hb2 hk2 hs2 c0 c1 hcb;have x1:World.cell? w2 ⟨cb,1,none⟩=some (.slice A6 k5 c6):=HC2.o.cell 1;have HE2:Hid (EvsAt w2 w.heap.size A6 z2):=zh (HE6.o.2.1.below (HB12.o.mono HBR.o.size));by_cases h6:6<k5
   ·have d6:decide ((6:Int)<(k5:Int))=true:=decide_eq_true (by omega);have n6:(6:Int)<(k5:Int):=by omega
    have d6':decide (6<k5)=true:=decide_eq_true h6;have HC:=zh (HAW.o w2 HB2.o);clear h6;go_wp2_with fail;refine HC.o.mono ?_;rintro e w3 ⟨rfl,hb3⟩;have HB3:=zT HB2 hb3;clear hb3 HC;go_wp2_with fail;go_ret;exact⟨rfl,HB3.o⟩
   have d6:decide ((6:Int)<(k5:Int))=false:=decide_eq_false (by omega);have n6:¬(6:Int)<(k5:Int):=by omega
   have d6':decide (6<k5)=false:=decide_eq_false h6;have HK6:Hid (k5<=6):=zh (by omega);have HC:=zh (Zjp w2 w.heap.size A6 z2 k5 c6 HE6.o.1 HE2.o HB2.o.size HE6.o.2.2 HIZ.o.2);clear h6;go_wp2_with fail;refine HC.o.mono ?_;rintro e w3 ⟨sb,rfl,hsb,hb3⟩;have HB3:=zT HB2 hb3;clear hb3 HC x1;cases sb with
   | true=>
    have HC:=zh (HAW.o w3 HB3.o);clear hsb;go_wp2_with fail;refine HC.o.mono ?_;rintro e w4 ⟨rfl,hb4⟩;have HB4:=zT HB3 hb4;clear hb4 HC;go_wp2_with fail;go_ret;exact⟨rfl,HB4.o⟩
   | false=>
    have HSB:=zh (hsb rfl);clear hsb;go_wp2_with fail;go_roundw
    case rel=>
     refine⟨k+1,by omega,by go_num,zh (fun j x hj hx=>?_),HB3⟩;by_cases h:j=k
     ·subst h;rw[HZ.o]at hx;cases hx;exact⟨by show z2.length<=6;rw[HE6.o.1];exact HK6.o,HSB.o⟩
     ·exact HOK.o j x (by omega) hx
    case measure=>simp[intOf];omega
  ·obtain rfl:n=k:=by omega
   have hkk:¬(n:Int)<(n:Int):=by omega
   have HFW:Hid (ChFew cl):=zh (fun x hx=>by
    obtain⟨j,hj⟩:=List.mem_iff_getElem?.1 hx;have h1:=(List.getElem?_eq_some_iff.1 hj).1;have h2:=HOK.o j x (by rw[<-HA.o.at_.len];exact h1) hj;exact⟨h2.1,fun e he=>h2.2 e he⟩)
   have HC:=zh (wtext_any wr w.heap.size A n c us cl (HA.o.at_.below HBR.o) HBR.o.size hn8 HFW.o (HLB.o wr HBR.o));obtain⟨tx,htx⟩:=zG (textW cl);rw[htx]at HC;clear hlt;go_wp2_with fail;refine HC.o.mono ?_;rintro e w3 ⟨rfl,hb3⟩;have HB3:=zT HBR hb3;have HC:=zh (rtext_any w3 w.heap.size A n c us cl (HA.o.at_.below HB3.o) HB3.o.size hn8 HFW.o);rw[htx]at HC;clear hb3 htx;have z1:(tx.toList == tx.toList)=true:=str_t rfl;go_wp2_with fail;refine HC.o.mono ?_;rintro e w4 ⟨rfl,hb4⟩;have HB4:=zT HB3 hb4;have HC:=zh (HAW.o w4 HB4.o);clear hb4;go_wp2_with fail;refine HC.o.mono ?_;rintro e w5 ⟨rfl,hb5⟩;have HB5:=zT HB4 hb5;clear hb5 HC;go_wp2_with fail;go_ret;exact⟨rfl,HB5.o⟩
end Go.Proofs.YtphmhbcimhlcjaaGreatDoor
