/- A part of the joined base. -/
import Derived.Test.YtnpfaajhgghpgaaGreatDoorU25
import Derived.Test.YtnpfaajhgghpgaaGreatDoorLaySb
import Derived.Shelf.SlSortCmp.InsertionK
set_option linter.unusedVariables false
set_option maxHeartbeats 8000000
set_option maxRecDepth 100000
namespace Go.Proofs.YtnpfaajhgghpgaaGreatDoor
open Go.Shelf Go.RowKit Go.Lib Go.Sort
abbrev PsOf (a b:Nat) (d d':Array Ev):Prop:=PermIn a b d d'/\SortedIn (ltOf cmpE) a b d'
theorem Zns (w0:World)(blk off n:Nat)(d0:Array Ev)(R:SbRow w0 blk off n d0)(cap a b:Nat)(d:Array Ev)(W:World)(hab:a<=b)(hb:b<=n)(h:SbIn w0 blk off n d W) :
  Calls Tryz.prog 133 #[.slice (some ⟨blk,off,none⟩) n cap,.int .i64 a,.int .i64 b,.func (.func 45) #[] #[]] W fun e w'=>e = .returned (.tuple #[])/\∃d',PsOf a b d d'/\SbIn w0 blk off n d' w':=by
 have hs:=h.size;have hf:=R.few;have hp:=insertionSort_holds Zdn d a b hab (by rw[hs];exact hb);have H:=AnyQ.insertionSortCmpFunc Tryz.insEv 8 (fun w=>Tryz.isAgg59 w) (fun w=>Tryz.sizeOf59 w) evC Za7 evC_1 cmpE 45 #[] blk off cap a b d W (fun _ _=>rfl) (Znp blk off d.size W) (h.holds R) (h.sw.lt R.hblk) hab (by rw[hs];exact hb) (by rw[hs];omega);rw[hs]at H;refine H.mono ?_;rintro e w' ⟨rfl,q,os,rfl⟩;have hz:(Sort.insertionSort (ltOf cmpE) d a b).size=d.size:=hp.1.1;exact⟨rfl,_,hp,h.sw.on R.hblk q _ os hz,by rw[hz,hs]⟩
theorem PsOf.up {n a b:Nat}{d0 d d':Array Ev}(h:PermIn 0 n d0 d)(hb:b<=n)(hs:d.size=n)(h':PermIn a b d d'):PermIn 0 n d0 d':=
 permIn_trans d0 d d' 0 n h (permIn_mono d d' a b 0 n (Nat.zero_le _) hb (by omega) h')
theorem Zlt (w0:World)(blk off n:Nat)(d0:Array Ev)(R:SbRow w0 blk off n d0)(cap:Nat)(d:Array Ev)(W:World)(h:SbIn w0 blk off n d W) :
  Calls Tryz.prog 113 #[.slice (some ⟨blk,off,none⟩) n cap,.int .i64 n,.func (.func 45) #[] #[]] W fun e w'=>e = .returned (.tuple #[])/\∃d',PsOf 0 n d d'/\SbIn w0 blk off n d' w':=by
 have HR:=zh R;have HH:=zh h;have hn:=R.few;clear R h;go_enter Tryz.func113,Tryz.ntmps113;go_wp2_with fail;go_loopw [7,8] (fun vi vj wr=>∃(j p:Nat) (dk:Array Ev),Hid (p=j*20)/\p<=n/\vi = .int .i64 p/\vj = .int .i64 ((p+20:Nat):Int)/\Hid (BlocksTo (ltOf cmpE) 20 j dk/\PermIn 0 n d dk)/\Hid (SbIn w0 blk off n dk wr)) (fun vi _ _=>n - (intOf vi).toNat)
 case atStart=>exact⟨0,0,d,zh (by omega),by omega,rfl,rfl,zh ⟨BlocksTo.start _ _ _,permIn_refl _ _ _⟩,HH⟩
 case round=>
  obtain⟨j,p,dk,hp,hpn,rfl,rfl,hbl,hw⟩:=hrel;by_cases hlt:p+20<=n
  ·have hlt8:((p+20:Nat):Int)<=(n:Int):=by omega
   have e2:((p+20:Nat):Int)+20=((p+20+20:Nat):Int):=by omega
   have wq:IntKind.i64.wrap ((p+20+20:Nat):Int)=((p+20+20:Nat):Int):=by rw[IntKind.wrap_i64];omega
   have HC:=zh (Zns w0 blk off n d0 HR.o cap p (p+20) dk wr (by omega) hlt hw.o);go_wp2_with fail;refine HC.o.mono ?_;rintro e w1 ⟨rfl,d1,hps,hw1⟩;have HNX:Hid (BlocksTo (ltOf cmpE) 20 (j+1) d1/\PermIn 0 n d d1):=zh ⟨by have:=hp.o;rw[this]at hps;exact hbl.o.1.next hps.1 hps.2,PsOf.up hbl.o.2 hlt hw.o.size hps.1⟩;have HW1:=zh hw1;clear HC hps hw1;go_wp2_with fail;go_roundw
   case rel=>exact⟨j+1,p+20,d1,zh (by have:=hp.o;omega),hlt,rfl,by first|rfl|go_num,HNX,HW1⟩
   case measure=>simp[intOf];omega
  ·have hlt8:¬((p+20:Nat):Int)<=(n:Int):=by omega
   have HC:=zh (Zns w0 blk off n d0 HR.o cap p n dk wr hpn (zr _) hw.o);go_wp2_with fail;refine HC.o.mono ?_;rintro e w1 ⟨rfl,d1,hps,hw1⟩;have HB:Hid (Blocks (ltOf cmpE) 20 n d1/\PermIn 0 n d d1):=zh ⟨by have:=hp.o;rw[this]at hps;exact hbl.o.1.done (by omega) hps.1 hps.2,PsOf.up hbl.o.2 (zr _) hw.o.size hps.1⟩;have HW1:=zh hw1;clear HC hps hw1 hbl hw hp hpn hlt hlt8;go_wp2_with fail;go_loopw [6] (fun vs wr=>∃(s:Nat) (dk:Array Ev),0<s/\s<=2000020/\vs = .int .i64 s/\Hid (Blocks (ltOf cmpE) s n dk/\PermIn 0 n d dk)/\Hid (SbIn w0 blk off n dk wr)) (fun vs _=>n - (intOf vs).toNat)
   case atStart=>exact⟨20,d1,by omega,by omega,rfl,HB,HW1⟩
   case round=>
    clear HB HW1;obtain⟨s,ds,hs0,hs9,rfl,hbl,hw⟩:=hrel;by_cases hsn:s<n
    ·have hsn8:(s:Int)<(n:Int):=by omega
     obtain⟨wo,hwo⟩:∃wo,wo=wr:=⟨_,rfl⟩
     subst hwo;have HBL:=hbl;have HWS:=hw;clear hbl hw;obtain⟨t,ht⟩:=zG (2*s);have f1:2*(s:Int)=(t:Int):=by omega
     have f2:(s:Int)*2=(t:Int):=by omega
     have wt:IntKind.i64.wrap (t:Int)=(t:Int):=by rw[IntKind.wrap_i64];omega
     have HT:=zh ht;have htb:0<t/\t<=4000040:=by omega
     clear ht;go_wp2_with fail;go_loopw [7,8] (fun vi vj wr=>∃(j p q:Nat) (dk:Array Ev),Hid (p=j*(2*s))/\p<=n/\q=p+t/\vi = .int .i64 p/\vj = .int .i64 q/\Hid (Merged (ltOf cmpE) s j n dk/\PermIn 0 n d dk)/\Hid (SbIn w0 blk off n dk wr)) (fun vi _ _=>n - (intOf vi).toNat)
     case atStart=>exact⟨0,0,t,ds,zh (by simp),by omega,by omega,rfl,rfl,zh ⟨Merged.start HBL.o.1,HBL.o.2⟩,HWS⟩
     case round=>
      clear HBL HWS;obtain⟨j,p,q,dk,hp,hpn,hq,rfl,rfl,hmg,hw⟩:=hrel;have ht:=HT.o;obtain⟨m,hm⟩:=zG (p+s);have e1:(p:Int)+(s:Int)=(m:Int):=by omega
      have w1:IntKind.i64.wrap (m:Int)=(m:Int):=by rw[IntKind.wrap_i64];omega
      have HM:=zh hm;have HQ:=zh hq;by_cases hlt:q<=n
      ·have hlt8:(q:Int)<=(n:Int):=by omega
       obtain⟨q2,hq2⟩:=zG (q+t);have e2:(q:Int)+(t:Int)=(q2:Int):=by omega
       have w2:IntKind.i64.wrap (q2:Int)=(q2:Int):=by rw[IntKind.wrap_i64];omega
       have HC:Hid _:=zh (Znr w0 blk off n d0 HR.o cap (n+1) p m q dk wr (by omega) (by omega) (by omega) hlt hw.o
        (by have h2:=hmg.o.1.left (by rw[<-hp.o];omega);rw[<-hp.o]at h2;rwa [hm]at h2)
        (by have h2:=hmg.o.1.right;rw[<-hp.o]at h2;rwa [Nat.min_eq_left (by omega),show p+s+s=q by omega,hm]at h2))
       have HQ2:=zh hq2;clear hm hq hq2 ht;go_wp2_with fail;refine HC.o.mono ?_;rintro e w3 ⟨rfl,d1,hps,hw1⟩;have HNX:Hid (Merged (ltOf cmpE) s (j+1) n d1/\PermIn 0 n d d1):=zh ⟨by have e:=HQ.o;rw[hp.o,<-HT.o]at e;rw[e,hp.o]at hps;exact hmg.o.1.next hps.1 hps.2,PsOf.up hmg.o.2 hlt hw.o.size hps.1⟩;have HW1:=zh hw1;clear HC hps hw1;go_wp2_with fail;go_roundw
       case rel=>exact⟨j+1,q,q2,d1,zh (by have:=hp.o;have:=HQ.o;have:=HT.o;rw[Nat.add_mul,Nat.one_mul];omega),hlt,HQ2.o.symm,rfl,rfl,HNX,HW1⟩
       case measure=>have:=HQ.o;simp[intOf];omega
      ·have hlt8:¬(q:Int)<=(n:Int):=by omega
       by_cases hmn:m<n
       ·have hmn8:(m:Int)<(n:Int):=by omega
        have HC:Hid _:=zh (Znr w0 blk off n d0 HR.o cap (n+1) p m n dk wr (by omega) (by omega) (by omega) (zr _) hw.o
         (by have h2:=hmg.o.1.left (by rw[<-hp.o];omega);rw[<-hp.o]at h2;rwa [hm]at h2)
         (by have h2:=hmg.o.1.right;rw[<-hp.o]at h2;rwa [Nat.min_eq_right (by omega),hm]at h2))
        clear hm hq ht;go_wp2_with fail;refine HC.o.mono ?_;rintro e w3 ⟨rfl,d1,hps,hw1⟩;have HNX:Hid (Blocks (ltOf cmpE) t n d1/\PermIn 0 n d d1):=zh ⟨by rw[hp.o]at hps;rw[<-HT.o];exact hmg.o.1.done (by rw[<-hp.o];have:=HQ.o;have:=HT.o;omega) hps.1 hps.2,PsOf.up hmg.o.2 (zr _) hw.o.size hps.1⟩;have HW1:=zh hw1;clear HC hps hw1;go_wp2_with fail;go_roundw
        case rel=>exact⟨t,d1,htb.1,by have:=HT.o;omega,rfl,HNX,HW1⟩
        case measure=>have:=HT.o;simp[intOf];omega
       ·have hmn8:¬(m:Int)<(n:Int):=by omega
        have HNX:Hid (Blocks (ltOf cmpE) t n dk/\PermIn 0 n d dk):=zh ⟨by rw[<-ht];exact hmg.o.1.done (by rw[<-hp.o];omega) (permIn_refl _ _ _) (hmg.o.1.short (by rw[<-hp.o];omega)),hmg.o.2⟩;clear hm hq ht;go_wp2_with fail;go_roundw
        case rel=>exact⟨t,dk,htb.1,by have:=HT.o;omega,rfl,HNX,hw⟩
        case measure=>have:=HT.o;simp[intOf];omega
    ·have hsn8:¬(s:Int)<(n:Int):=by omega
     have HF:Hid (PsOf 0 n d ds):=zh ⟨hbl.o.2,hbl.o.1.all (by omega)⟩;go_wp2_with fail;go_end0;exact⟨rfl,ds,HF.o,hw.o⟩
end Go.Proofs.YtnpfaajhgghpgaaGreatDoor
namespace Go.Proofs.YtnpfaajhgghpgaaGreatDoor
open Go.Shelf Go.RowKit Go.Lib Go.Sort
theorem Zlu (w:World)(e:TypeId)(size:Nat):(w.alloc (.cells #[] e)).ownsRow w.heap.size e size (.slice (some ⟨w.heap.size,0,none⟩) 0 0) 0 []:=
 ⟨by simp,Or.inr ⟨w.heap.size,0,#[],rfl,zr _,heap_alloc_new w _,zr _,Nat.zero_le _,by simp,by simp⟩⟩
theorem Zqd (w:World)(base:Nat)(e:TypeId)(size:Nat):w.ownsRow base e size (.slice none 0 0) 0 []:=⟨by simp,Or.inl ⟨rfl,rfl⟩⟩
theorem Zf7 (w:World)(B:Nat)(A:Option Addr)(l:List Ev)(n c:Nat)(hn:l.length=n)(hl:EvsAt w B A l)(hB:B<=w.heap.size)(hnil:A=none->c=0)(hb:n<=1000000) :
  Calls Tryz.prog 64 #[.slice A n c] w fun e w'=>∃v,e = .returned v/\w'.ownsRow w.heap.size 59 8 v n (l.flatMap evC)/\Below w.heap.size w w':=by
 obtain⟨i0,hi0,hz0,hz1,hz2⟩:=info_parts Zdd;have hen:∀(a:Option Addr) (l c:Nat) (W:World),(binOp .eql 23 (.slice a l c) (.slice none 0 0)).run Tryz.prog W = .ok (.bool a.isNone) W:=fun a l c W=>Lib.run_eql_slice_nil _ _ _ _ _ _ _ _ Tryz.underlying23;cases A with
 | none=>
  have hc:=hnil rfl;subst hc;have h0:n=0:=by
   rcases hl.2 with h|⟨b,off,h,_⟩
   ·omega
   ·cases h
  subst h0;obtain rfl:l = []:=List.eq_nil_of_length_eq_zero hn;clear hl hnil hn;go_enter Tryz.func64,Tryz.ntmps64;go_wp2_with fail;go_ret;exact⟨_,rfl,Zqd _ _ _ _,Below.refl _ _⟩
 | some ad=>
  have r0:RowIn (w.alloc (.cells #[] 59)) B 8 (some ad) n (l.flatMap evC):=by
   have:=RowIn.alloc hl hB (.cells #[] 59)
   rwa [hn]at this
  have HR:=zh r0;have HO:=zh (Zlu w 59 8);have HONE:=zh (Zb1 l);clear hl r0 hnil hn;go_enter Tryz.func64,Tryz.ntmps64;go_wp2_with (at_builtin;refine Zaa _ rfl (.tmp 5) (.tmp 6) 23 rfl w.heap.size 59 i0 _ 8 96 Tryz.underlying23 hi0 hz0 hz1 hz2 rfl (by omega) _ 0 [] rfl HO.o B (some ad) n c _ rfl HR.o (fun h=>by cases h) HONE.o (by unfold maxLen;omega) (by omega) (by simp) ?_;intro v w1 ho hg hv);go_ret;refine⟨v,rfl,?_,?_⟩
  ·rw[Nat.zero_add,List.nil_append]at ho;exact ho
  ·have h4:Kept (fun i=>w.heap.size<=i) w w1:=((Kept.refl _ w).alloc _).grown hg (fun j hj=>Or.inr (by cases hj;exact zr _));exact h4.toBelow (fun i hi=>hi) (zr _)
theorem Zsu (w:World)(cmp:Value):Calls Tryz.prog 133 #[.slice none 0 0,.int .i64 0,.int .i64 0,cmp] w fun e w'=>e = .returned (.tuple #[])/\w'=w:=by
 go_enter Tryz.func133,Tryz.ntmps133;go_wp2_with fail;go_loopw [8] (fun vi wr=>vi = .int .i64 1/\wr=w) (fun vi _=>0)
 case atStart=>exact⟨rfl,rfl⟩
 case round=>
  obtain⟨rfl,rfl⟩:=hrel;go_wp2_with fail;go_end0;exact⟨rfl,rfl⟩
theorem Zlv (w:World)(cmp:Value):Calls Tryz.prog 113 #[.slice none 0 0,.int .i64 0,cmp] w fun e w'=>e = .returned (.tuple #[])/\w'=w:=by
 have HI:=zh (Zsu w cmp);go_enter Tryz.func113,Tryz.ntmps113;go_wp2_with fail;go_loopw [7,8] (fun vi vj wr=>vi = .int .i64 0/\vj = .int .i64 20/\wr=w) (fun vi _ _=>0)
 case atStart=>exact⟨rfl,rfl,rfl⟩
 case round=>
  obtain⟨rfl,rfl,rfl⟩:=hrel;go_wp2_with fail;refine HI.o.mono ?_;rintro e w1 ⟨rfl,rfl⟩;go_wp2_with fail;go_loopw [6] (fun vi wr=>vi = .int .i64 20/\wr=w1) (fun vi _=>0)
  case atStart=>exact⟨rfl,rfl⟩
  case round=>
   obtain⟨rfl,rfl⟩:=hrel;go_wp2_with fail;go_end0;exact⟨rfl,rfl⟩
theorem Zfo (w0:World)(blk off n:Nat)(d0:Array Ev)(R:SbRow w0 blk off n d0)(cap:Nat)(d:Array Ev)(W:World)(h:SbIn w0 blk off n d W) :
  Calls Tryz.prog 86 #[.slice (some ⟨blk,off,none⟩) n cap,.func (.func 45) #[] #[]] W fun e w'=>e = .returned (.tuple #[])/\∃d',PsOf 0 n d d'/\SbIn w0 blk off n d' w':=by
 have HC:=zh (Zlt w0 blk off n d0 R cap d W h);have hn:=R.few;clear R h;go_enter Tryz.func86,Tryz.ntmps86;go_wp2_with fail;refine HC.o.mono ?_;rintro e w1 ⟨rfl,d1,h1,h2⟩;have H1:=zh h1;have H2:=zh h2;clear HC h1 h2;go_wp2_with fail;go_end0;exact⟨rfl,d1,H1.o,H2.o⟩
theorem Zfp (w:World)(cmp:Value):Calls Tryz.prog 86 #[.slice none 0 0,cmp] w fun e w'=>e = .returned (.tuple #[])/\w'=w:=by
 have HC:=zh (Zlv w cmp);go_enter Tryz.func86,Tryz.ntmps86;go_wp2_with fail;refine HC.o.mono ?_;rintro e w1 ⟨rfl,rfl⟩;go_wp2_with fail;go_end0;exact⟨rfl,rfl⟩
theorem Zqe (w:World)(A:Option Addr)(n c:Nat)(hc:n<=c)(hb:n<=1000000):Calls Tryz.prog 87 #[.slice A n c] w fun e w'=>e = .returned (.slice A n n)/\w'=w:=by
 go_enter Tryz.func87,Tryz.ntmps87;go_wp2_with fail;go_ret;exact⟨rfl,rfl⟩
end Go.Proofs.YtnpfaajhgghpgaaGreatDoor
namespace Go.Proofs.YtnpfaajhgghpgaaGreatDoor
open Go.Shelf Go.RowKit Go.Lib Go.Sort
theorem Zf8 (l:List Ev)(t:Nat)(ht:t<l.length*8):(flatK evC 8 l.toArray)[t]! = ((l.flatMap evC)[t]?).getD default:=by
 rw[get_flatK _ _ _ _ (by simpa using ht)];have hi:t / 8<l.length:=by omega
 have h:=Zbi evC 8 Za7 l (t / 8) (t % 8) (l[t / 8]'hi) (List.getElem?_eq_getElem hi) (by omega);rw[show t / 8*8+t % 8=t from by omega]at h;rw[h];have:l.toArray[t / 8]! = l[t / 8]'hi:=by simp[hi]
 rw[this];have hl:=Za7 (l[t / 8]'hi);rw[getElem!_pos _ _ (by rw[hl];omega),List.getElem?_eq_getElem (by rw[hl];omega)]
 rfl
theorem Zlw {w:World}{g:Nat}{l:List Ev}(hc:∀j u,(l.flatMap evC)[j]? = some u->w.cell? ⟨g,0+j,none⟩=some u)(hf:∀j,w.frozen? ⟨g,j,none⟩=false):HoldsK evC 8 w g 0 l.toArray:=by
 intro j hj;have hj4:j<l.length*8:=by simpa using hj
 refine⟨?_,hf _⟩;rw[Zf8 l j hj4];have hlt:j<(l.flatMap evC).length:=by rw[Zc2 evC 8 Za7];exact hj4
 rw[hc j _ (List.getElem?_eq_getElem hlt),List.getElem?_eq_getElem hlt]
 rfl
theorem Zeq {w:World}{g:Nat}{l:List Ev}(h:HoldsK evC 8 w g 0 l.toArray):∀j u,(l.flatMap evC)[j]? = some u->w.cell? ⟨g,0+j,none⟩=some u:=by
 intro j u hu;have hlt:j<(l.flatMap evC).length:=(List.getElem?_eq_some_iff.1 hu).1;have hj4:j<l.length*8:=by rw[<-Zc2 evC 8 Za7];exact hlt
 have:=(h j (by simpa using hj4)).1;rw[Zf8 l j hj4,hu]at this;exact this
abbrev SortedS (l:List Ev):Prop:=l.Pairwise fun a b=>ltOf cmpE b a=false
theorem Zqf (w:World)(base:Nat)(A:Option Addr)(l:List Ev)(n c:Nat)(hn:l.length=n)(hl:w.ownsRow base 59 8 (.slice A n c) n (l.flatMap evC))(hb:n<=1000000) :
  Calls Tryz.prog 86 #[.slice A n c,.func (.func 45) #[] #[]] w fun e w'=>e = .returned (.tuple #[])/\∃l':List Ev,l'.Perm l/\SortedS l'/\RowIn w' w.heap.size 8 A n (l'.flatMap evC)/\Kept (fun q=>(Value.slice A n c).ownBlock=some q) w w':=by
 rcases hl.2 with ⟨h1,h2⟩|⟨g,cap,cur,h1,h2,h3,h4,_⟩
 ·injection h1 with hA hn0 hc0;subst hA;subst hn0;subst hc0;obtain rfl:l = []:=List.eq_nil_of_length_eq_zero hn;refine (Zfp w _).mono ?_;rintro e w' ⟨rfl,rfl⟩;exact⟨rfl,[],List.Perm.refl _,List.Pairwise.nil,RowIn.nil _ _ _ _,Kept.refl _ _⟩
 ·injection h1 with hA _ hc;subst hA;subst hc;have hlt:g<w.heap.size:=(Array.getElem?_eq_some_iff.1 h3).1;have hcells:=hl.cells (g:=g) rfl;have hH:HoldsK evC 8 w g 0 l.toArray:=Zlw (fun j u hu=>by have:=hcells j u hu;rwa [at_add]at this) (Zld hl);have hsz0:l.toArray.size=n:=by simpa using hn
  have R:SbRow w g 0 n l.toArray:=⟨hH,hlt,hsz0,hb⟩
  refine (Zfo w g 0 n l.toArray R c l.toArray w ⟨SWK.start hH,hsz0⟩).mono ?_;rintro e w' ⟨rfl,d',⟨hp,hs⟩,hw'⟩;have hH2:=hw'.holds R;obtain⟨m,os,rfl⟩:=hw'.sw;obtain⟨hsz,_,hperm⟩:=hp;have hsz':d'.size=n:=by rw[hsz];exact hsz0
  have e1:d'.extract 0 n=d':=by rw[<-hsz'];exact Array.extract_size
  have e2:l.toArray.extract 0 n=l.toArray:=by rw[<-hsz0];exact Array.extract_size
  rw[e1,e2]at hperm;refine⟨rfl,d'.toList,by simpa using hperm,?_,?_,?_⟩
  ·show List.Pairwise _ _;rw[List.pairwise_iff_getElem];intro i j hi hj hij;have hi':i<d'.size:=by simpa using hi
   have hj':j<d'.size:=by simpa using hj
   have:=hs i j (Nat.zero_le _) hij (by rw[<-hsz'];exact hj');rw[getElem!_pos d' i hi',getElem!_pos d' j hj']at this;simpa using this
  ·exact⟨by rw[Zc2 evC 8 Za7];simp[hsz'],Or.inr ⟨g,0,rfl,hlt,Zeq (l:=d'.toList) (by simpa using hH2)⟩⟩
  ·refine⟨rfl,rfl,rfl,?_,fun i hi hni=>?_⟩
   ·show w.heap.size<=((putRowK evC 8 (Sort.ahead w m) g 0 d').heap++os).size;rw[Array.size_append,size_putRowK];exact Nat.le_add_right _ _
   ·show ((putRowK evC 8 (Sort.ahead w m) g 0 d').heap++os)[i]? = _;rw[Array.getElem?_append_left (by rw[size_putRowK];show i<w.heap.size;omega)];simp only[putRowK,putRow,mapBlock,Array.getElem?_modify];rw[if_neg (fun e=>hni (by rw[<-e];rfl))]
    rfl
theorem Zks {w:World}{base e size n c:Nat}{A:Option Addr}{xs:List Value}(h:w.ownsRow base e size (.slice A n c) n xs):n<=c/\∀g,(Value.slice A n c).ownBlock=some g->base<=g:=by
 rcases h.2 with ⟨h1,rfl⟩|⟨g,cap,cur,h1,h2,h3,h4,_⟩
 ·injection h1 with hA _ hc;subst hA;subst hc;exact⟨zr _,fun g hg=>by cases hg⟩
 ·injection h1 with hA _ hc;subst hA;subst hc;exact⟨h4,fun g' hg=>by cases hg;exact h2⟩
theorem Zbh {w:World}{base n:Nat}{e:TypeId}{size:Nat}{v:Value}{xs:List Value}(h:w.ownsRow base e size v n xs):∃A c,v = .slice A n c:=by
 rcases h.2 with ⟨rfl,rfl⟩|⟨g,cap,cur,rfl,_⟩
 ·exact⟨_,_,rfl⟩
 ·exact⟨_,_,rfl⟩
theorem Zlx (w:World)(B:Nat)(A:Option Addr)(l:List Ev)(n c:Nat)(hn:l.length=n)(hl:EvsAt w B A l)(hB:B<=w.heap.size)(hnil:A=none->c=0)(hb:n<=1000000) :
  Calls Tryz.prog 47 #[.slice A n c] w fun e w'=>∃A' l',e = .returned (.slice A' n n)/\l'.Perm l/\SortedS l'/\EvsAt w' w'.heap.size A' l'/\(∀g,(Value.slice A' n n).ownBlock=some g->w.heap.size<=g)/\(A'=none->n=0)/\Below w.heap.size w w':=by
 have HC:=zh (Zf7 w B A l n c hn hl hB hnil hb);have HN:=zh hn;clear hl hnil hn;go_enter Tryz.func47,Tryz.ntmps47;go_wp2_with fail;refine HC.o.mono ?_;rintro e w1 ⟨v,rfl,ho,hk1⟩;obtain⟨A',c',rfl⟩:=Zbh ho;have HO:=zh ho;have HK1:=zh hk1;have HS:=zh (Zqf w1 w.heap.size A' l n c' HN.o ho hb);have hcc:=(Zks ho).1;have HP:=zh (Zks ho).2;clear HC ho hk1;go_wp2_with fail;refine HS.o.mono ?_;rintro e w2 ⟨rfl,l',hp,hs,hr,hk2⟩;have H1:=zh hp;have H2:=zh hs;have H3:=zh hr;have H4:=zh hk2;have HCL:=zh (Zqe w2 A' n c' hcc hb);clear HS hp hs hr hk2;go_wp2_with fail;refine HCL.o.mono ?_;rintro e w3 ⟨rfl,rfl⟩;go_wp2_with fail;go_ret;have hlen:l'.length=n:=by rw[H1.o.length_eq];exact HN.o
 refine⟨A',l',rfl,H1.o,H2.o,?_,?_,?_,?_⟩
 ·show RowIn _ _ _ _ _ _;rw[hlen];exact H3.o.more H4.o.size
 ·intro g hg;exact HP.o g (by cases A' <;> exact hg)
 ·rintro rfl;rcases HO.o.2 with ⟨_,h⟩|⟨g,cap,cur,h,_⟩
  ·exact h
  ·cases h
 ·have h5:Kept (fun i=>w.heap.size<=i) w1 w3:=H4.o.mono (fun i _ hi=>HP.o i (by cases A' <;> exact hi));exact HK1.o.trans (h5.toBelow (fun i hi=>hi) HK1.o.size)
end Go.Proofs.YtnpfaajhgghpgaaGreatDoor
