/- A part of the joined base. -/
import Derived.Test.YtphmhbcimhlcjaaGreatDoorU38
set_option linter.unusedVariables false
set_option maxHeartbeats 8000000
set_option maxRecDepth 100000
namespace Go.Proofs.YtphmhbcimhlcjaaGreatDoor
open Go.Shelf Go.RowKit Go.Maps
theorem doc_info:(Tryz.prog.info? 158).map (fun i=>(i.zero,i.size,i.bytes))=some (some (.agg #[.string ⟨#[]⟩,.int .i64 0,.int .i64 0,.int .i64 0,.string ⟨#[]⟩,.string ⟨#[]⟩,.int .i64 0,.string ⟨#[]⟩,.slice none 0 0]),9,120):=by kernel_rfl
theorem one_rd (w:World)(r:Rd)(t:TypeId):RowIn (w.alloc (.cells (rdAr r) t)) (w.heap.size+1) 9 (some ⟨w.heap.size,0,none⟩) 1 (rdC r):=Ztp w r.e r.A r.n r.c t
def ownR (xl:List Rd)(p:ByteArray):List Rd:=xl.filter fun r=>decide (r.e.person=p)
theorem ownR_snoc (xl:List Rd)(r:Rd)(p:ByteArray):ownR (xl++[r]) p=if r.e.person=p then ownR xl p++[r] else ownR xl p:=by
 unfold ownR;rw[List.filter_append];by_cases h:r.e.person=p <;> simp[h]
theorem own_any (w:World)(B:Nat)(A:Option Addr)(n c:Nat)(xl:List Rd)(p:ByteArray)(hn:xl.length=n)(hr:RowIn w B 9 A n (xl.flatMap rdC))(hB:B<=w.heap.size)(hb:n<=1000) :
  Calls Tryz.prog 96 #[.slice A n c,.string p] w fun e w'=>∃(A':Option Addr) (n' c':Nat),e = .returned (.slice A' n' c')/\n'=(ownR xl p).length/\n'<=n/\w'.ownsRow w.heap.size 158 9 (.slice A' n' c') n' ((ownR xl p).flatMap rdC)/\Below w.heap.size w w':=by
 have HN:=zh hn;have HR:=zh hr;obtain⟨w1,hw1⟩:=zG (w.alloc (.cells #[] 158));have HO1:Hid (w1.ownsRow w.heap.size 158 9 (.slice (some ⟨w.heap.size,0,none⟩) 0 0) 0 []):=zh (by rw[<-hw1];exact Zhl _ _ _);have HB1:=zA hw1;obtain⟨i1,hi1,hy0,hy1,hy2⟩:=info_parts doc_info;clear hn hr;go_enter Tryz.func96,Tryz.ntmps96;go_wp2_with fail;clear hw1;go_loopw [5,6] (fun v i wr=>∃(k m:Nat),k<=n/\m<=k/\i = .int .i64 k/\Hid (m=(ownR (xl.take k) p).length)/\Hid (wr.ownsRow w.heap.size 158 9 v m ((ownR (xl.take k) p).flatMap rdC))/\Hid (Below w.heap.size w wr)) (fun _ i _=>n - (intOf i).toNat)
 case atStart=>exact⟨0,0,Nat.zero_le _,zr _,rfl,zh rfl,HO1,HB1⟩
 case round=>
  clear HO1 HB1;obtain⟨k,m,hk,hmk,rfl,hm,hrow,hbw⟩:=hrel;obtain⟨A5,c5,hq⟩:=own_shape hrow.o;rw[hq]at hrow ⊢;clear hq;have hwz:=hbw.o.size;by_cases hlt:k<n
  ·obtain⟨x,hx⟩:∃x,xl[k]? = some x:=⟨xl[k]'(by rw[HN.o];exact hlt),List.getElem?_eq_getElem _⟩
   have HSN:Hid (ownR (xl.take (k+1)) p=if x.e.person=p then ownR (xl.take k) p++[x] else ownR (xl.take k) p):=zh (by rw[Zbd hx,ownR_snoc]);obtain⟨g,o,rfl,hgB,hcl⟩:=Ztq HR.o (by omega);obtain⟨e0,e1,e2,e3,e4,e5,e6,e7,e8⟩:RdAt wr g (o+k*9) x:=(hcl k x hx).keep (fun j=>hbw.o.cell (p:=⟨g,j,none⟩) (by show g<_;omega));have hk8:(k:Int)<(n:Int):=by omega
   have hk9:(0:Int)<=(k:Int):=by omega
   have HR1:Hid (RowIn (wr.alloc (.cells (rdAr x) 158)) (wr.heap.size+1) 9 (some ⟨wr.heap.size,0,none⟩) 1 (rdC x)):=zh (one_rd wr x _);unfold rdAr at HR1;clear hcl hx;by_cases q1:x.e.person=p
   ·have HSN1:Hid (ownR (xl.take (k+1)) p=ownR (xl.take k) p++[x]):=zh (by rw[HSN.o,if_pos q1]);have s1:=str_t q1;clear q1 HSN
    go_wp2_with (first
     | (at_builtin;refine Zaa _ rfl _ _ 113 rfl w.heap.size 158 i1 _ 9 120 Tryz.underlying113 hi1 hy0 hy1 hy2 rfl (by omega) (.slice A5 m c5) m _ rfl (hrow.o.alloc _) (wr.heap.size+1) (some ⟨wr.heap.size,0,none⟩) 1 1 (rdC x) rfl HR1.o (fun h=>by cases h) (fun u hu=>Zrz [x] u (by simpa using hu)) (by unfold maxLen;omega) (by omega) (by simp;omega) ?_;intro v7 w7 ho7 hg7 hv7))
    go_roundw
    case rel=>
     refine⟨k+1,m+1,by omega,by omega,by go_num,zh (by rw[HSN1.o,List.length_append,<-hm.o];rfl),zh ?_,zh ((hbw.o.alloc hwz _).grown hg7 (by simp;omega) (fun j hj=>(hrow.o.lt _ hj).1))⟩;rw[HSN1.o,List.flatMap_append];simpa using ho7
    case measure=>simp[intOf];omega
   ·have HSN1:Hid (ownR (xl.take (k+1)) p=ownR (xl.take k) p):=zh (by rw[HSN.o,if_neg q1]);have s1:=str_f q1;clear q1 HSN;go_wp2_with fail;go_roundw
    case rel=>exact⟨k+1,m,by omega,by omega,by go_num,zh (by rw[HSN1.o];exact hm.o),zh (by rw[HSN1.o];exact hrow.o),hbw⟩
    case measure=>simp[intOf];omega
  ·obtain rfl:n=k:=by omega
   have hta:xl.take n=xl:=by rw[<-HN.o,List.take_length]
   rw[hta]at hm hrow;go_wp2_with fail;go_ret;exact⟨A5,m,c5,rfl,hm.o,hmk,hrow.o,hbw.o⟩
def lstF (i t:ByteArray)(a b:Int)(acc:Int)(r:Rd):Int:=if r.e.item=i/\r.e.text=t/\(r.e.kind=a\/r.e.kind=b) then r.e.kind else acc
def lstK (l:List Rd)(i t:ByteArray)(a b:Int):Int:=l.foldl (lstF i t a b) (-1)
theorem lstK_snoc (l:List Rd)(r:Rd)(i t:ByteArray)(a b:Int):lstK (l++[r]) i t a b=lstF i t a b (lstK l i t a b) r:=by unfold lstK;rw[List.foldl_append];rfl
theorem last_any (w:World)(B:Nat)(A:Option Addr)(n c:Nat)(xl:List Rd)(p i t:ByteArray)(a b:Int)(hn:xl.length=n)(hr:RowIn w B 9 A n (xl.flatMap rdC))(hB:B<=w.heap.size)(hb:n<=1000) :
  Calls Tryz.prog 51 #[.slice A n c,.string p,.string i,.string t,.int .i64 a,.int .i64 b] w fun e w'=>e = .returned (.int .i64 (lstK (ownR xl p) i t a b))/\Below w.heap.size w w':=by
 have HOW:=zh (own_any w B A n c xl p hn hr hB hb);obtain⟨ol,hol⟩:=zG (ownR xl p);rw[hol]at HOW ⊢;clear hol;go_enter Tryz.func51,Tryz.ntmps51;go_wp2_with fail;refine HOW.o.mono ?_;rintro e w1 ⟨A1,n1,c1,rfl,hn1,hnn,ho1,hb1⟩;have HN:=zh hn1;have HR:=zh (RowIn.of_own ho1);have HB1:=zh hb1;clear hn hr hn1 ho1 hb1 HOW;go_wp2_with fail;go_loopw [13,20] (fun v i' wr=>∃(k:Nat) (m:Int),k<=n1/\v = .int .i64 m/\i' = .int .i64 k/\Hid (lstK (ol.take k) i t a b=m)/\Hid (Below w1.heap.size w1 wr)) (fun _ i _=>n1 - (intOf i).toNat)
 case atStart=>exact⟨0,-1,Nat.zero_le _,rfl,rfl,zh rfl,zh (Below.refl _ _)⟩
 case round=>
  obtain⟨k,m,hk,rfl,rfl,hm,hbw⟩:=hrel;have hwz:=hbw.o.size;by_cases hlt:k<n1
  ·obtain⟨x,hx⟩:∃x,ol[k]? = some x:=⟨ol[k]'(by rw[<-HN.o];exact hlt),List.getElem?_eq_getElem _⟩
   have HSN:Hid (lstK (ol.take (k+1)) i t a b=if x.e.item=i/\x.e.text=t/\(x.e.kind=a\/x.e.kind=b) then x.e.kind else m):=zh (by rw[Zbd hx,lstK_snoc,hm.o];rfl);obtain⟨g,o,rfl,hgB,hcl⟩:=Ztq HR.o (by omega);obtain⟨e0,e1,e2,e3,e4,e5,e6,e7,e8⟩:RdAt wr g (o+k*9) x:=(hcl k x hx).keep (fun j=>hbw.o.cell (p:=⟨g,j,none⟩) hgB);have hk8:(k:Int)<(n1:Int):=by omega
   have hk9:(0:Int)<=(k:Int):=by omega
   obtain⟨w3,hw3⟩:=zG (wr.alloc (.cells (rdAr x) 158));have HBX:Hid (Blk w3 wr.heap.size 158 (rdAr x)):=zB hw3;have HB3:Hid (Below w1.heap.size w1 w3):=zh (by rw[<-hw3];exact hbw.o.alloc hwz _);obtain⟨-,-,-,d3,-,d5,-,d7,-⟩:=zC9 HBX.o;unfold rdAr at hw3;clear hcl hx;by_cases q1:x.e.item=i
   rotate_left
   ·have HS1:Hid (lstK (ol.take (k+1)) i t a b=m):=zh (by rw[HSN.o,if_neg (fun h=>q1 h.1)]);have s1:=str_f q1;clear q1 HSN;go_wp2_with fail;go_roundw
    case rel=>exact⟨k+1,m,by omega,rfl,by go_num,HS1,HB3⟩
    case measure=>simp[intOf];omega
   have s1:=str_t q1;by_cases q2:x.e.text=t
   rotate_left
   ·have HS1:Hid (lstK (ol.take (k+1)) i t a b=m):=zh (by rw[HSN.o,if_neg (fun h=>q2 h.2.1)]);have s2:=str_f q2;clear q1 q2 HSN;go_wp2_with fail;go_roundw
    case rel=>exact⟨k+1,m,by omega,rfl,by go_num,HS1,HB3⟩
    case measure=>simp[intOf];omega
   have s2:=str_t q2;by_cases q3:x.e.kind=a
   ·have HS1:Hid (lstK (ol.take (k+1)) i t a b=x.e.kind):=zh (by rw[HSN.o,if_pos ⟨q1,q2,Or.inl q3⟩]);have s3:=int_t q3;clear q1 q2 q3 HSN;go_wp2_with fail;go_roundw
    case rel=>exact⟨k+1,x.e.kind,by omega,rfl,by go_num,HS1,HB3⟩
    case measure=>simp[intOf];omega
   have s3:=int_f q3;by_cases q4:x.e.kind=b
   ·have HS1:Hid (lstK (ol.take (k+1)) i t a b=x.e.kind):=zh (by rw[HSN.o,if_pos ⟨q1,q2,Or.inr q4⟩]);have s4:=int_t q4;clear q1 q2 q3 q4 HSN;go_wp2_with fail;go_roundw
    case rel=>exact⟨k+1,x.e.kind,by omega,rfl,by go_num,HS1,HB3⟩
    case measure=>simp[intOf];omega
   ·have HS1:Hid (lstK (ol.take (k+1)) i t a b=m):=zh (by rw[HSN.o,if_neg (fun h=>h.2.2.elim q3 q4)]);have s4:=int_f q4;clear q1 q2 q3 q4 HSN;go_wp2_with fail;go_roundw
    case rel=>exact⟨k+1,m,by omega,rfl,by go_num,HS1,HB3⟩
    case measure=>simp[intOf];omega
  ·obtain rfl:n1=k:=by omega
   have hta:ol.take n1=ol:=by rw[HN.o,List.take_length]
   rw[hta]at hm;go_wp2_with fail;go_ret;exact⟨Zb2 (by rw[hm.o]),HB1.o.trans (hbw.o.mono HB1.o.size)⟩
theorem rworth_any (x:Ev)(w:World):Calls Tryz.prog 97 #[evA x] w fun e w'=>e = .returned (.int .i64 (worthP x))/\Below w.heap.size w w':=by
 have HW:Hid (worthP x=if x.kind=1 then 1 else if x.kind=2 then 3 else if x.kind=3 then 5 else if x.kind=4 then x.value else 0):=zh rfl;generalize worthP x=q at *;obtain⟨s0,n0,t0,k0,p0,i0,v0,x0⟩:=x;dsimp only at HW;unfold evA;dsimp only;obtain⟨w1,hw1⟩:=zG (w.alloc (.cells #[.string s0,.int .i64 n0,.int .i64 t0,.int .i64 k0,.string p0,.string i0,.int .i64 v0,.string x0] 66));have bl:Blk w1 w.heap.size 66 #[.string s0,.int .i64 n0,.int .i64 t0,.int .i64 k0,.string p0,.string i0,.int .i64 v0,.string x0]:=by rw[<-hw1];exact Blk.new _ _ _
 have HB1:=zA hw1;have c3:w1.cell? ⟨w.heap.size,3,none⟩=some (.int .i64 k0):=bl.cell 3;have c6:w1.cell? ⟨w.heap.size,6,none⟩=some (.int .i64 v0):=bl.cell 6;clear bl;by_cases q1:k0=1
 ·have HQ:Hid (q=1):=zh (by rw[HW.o,if_pos q1]);subst q1;clear HW;go_enter Tryz.func97,Tryz.ntmps97;go_wp2_with fail;go_ret;exact⟨Zb2 HQ.o.symm,HB1.o⟩
 have e1:(k0 == 1)=false:=by rw[Bool.eq_false_iff];intro e;exact q1 (beq_iff_eq.1 e)
 by_cases q2:k0=2
 ·have HQ:Hid (q=3):=zh (by rw[HW.o,if_neg (show ¬k0=1 by omega),if_pos q2]);subst q2;clear HW;go_enter Tryz.func97,Tryz.ntmps97;go_wp2_with fail;go_ret;exact⟨Zb2 HQ.o.symm,HB1.o⟩
 have e2:(k0 == 2)=false:=by rw[Bool.eq_false_iff];intro e;exact q2 (beq_iff_eq.1 e)
 by_cases q3:k0=3
 ·have HQ:Hid (q=5):=zh (by rw[HW.o,if_neg (show ¬k0=1 by omega),if_neg (show ¬k0=2 by omega),if_pos q3]);subst q3;clear HW;go_enter Tryz.func97,Tryz.ntmps97;go_wp2_with fail;go_ret;exact⟨Zb2 HQ.o.symm,HB1.o⟩
 have e3:(k0 == 3)=false:=by rw[Bool.eq_false_iff];intro e;exact q3 (beq_iff_eq.1 e)
 by_cases q4:k0=4
 ·have HQ:Hid (q=v0):=zh (by rw[HW.o,if_neg (show ¬k0=1 by omega),if_neg (show ¬k0=2 by omega),if_neg (show ¬k0=3 by omega),if_pos q4]);subst q4;clear HW;go_enter Tryz.func97,Tryz.ntmps97;go_wp2_with fail;go_ret;exact⟨Zb2 HQ.o.symm,HB1.o⟩
 have e4:(k0 == 4)=false:=by rw[Bool.eq_false_iff];intro e;exact q4 (beq_iff_eq.1 e)
 have HQ:Hid (q=0):=zh (by rw[HW.o,if_neg q1,if_neg q2,if_neg q3,if_neg q4]);clear HW q1 q2 q3 q4;go_enter Tryz.func97,Tryz.ntmps97;go_wp2_with fail;go_ret;exact⟨Zb2 HQ.o.symm,HB1.o⟩
theorem rin16_any (w:World)(B:Nat)(A:Option Addr)(l:List ByteArray)(n c:Nat)(s:ByteArray)(hn:l.length=n)(hl:RowIn w B 1 A n (l.map .string))(hb:n<=1000000) :
  Calls Tryz.prog 138 #[.slice A n c,.string s] w fun e w'=>e = .returned (.bool (memB s l))/\w=w':=by
 have HN:=zh hn;have HL:=zh hl;clear hn hl;go_enter Tryz.func138,Tryz.ntmps138;go_wp2_with fail;go_loopw [5] (fun i wr=>∃k:Nat,k<=n/\i = .int .i64 k/\Hid (∀j t,j<k->l[j]? = some t->t≠s)/\wr=w) (fun i _=>n - (intOf i).toNat)
 case atStart=>exact⟨0,Nat.zero_le _,rfl,zh (fun j t hj=>by omega),rfl⟩
 case round=>
  obtain⟨k,hk,rfl,hok,rfl⟩:=hrel;by_cases hlt:k<n
  ·obtain⟨t,ht⟩:∃t,l[k]? = some t:=⟨l[k]'(by rw[HN.o];exact hlt),List.getElem?_eq_getElem _⟩
   obtain⟨g,o,rfl,_,hc⟩:=HL.o.at (by omega);have e0:wr.cell? ⟨g,o+k,none⟩=some (.string t):=hc k _ (by simp[ht]);have HTK:=zh ht;have hk8:(k:Int)<(n:Int):=by omega
   have hk9:(0:Int)<=(k:Int):=by omega
   clear ht hc;by_cases he:t=s
   ·have HE:=zh he;have q1:(t.toList == s.toList)=true:=(Zbw t s).2 he;clear he;go_wp2_with fail;go_ret;exact⟨Zab ((Zbb _ _).2 (by rw[<-HE.o];exact List.mem_of_getElem? HTK.o)).symm,rfl⟩
   ·have HE:=zh he;have q1:(t.toList == s.toList)=false:=Bool.eq_false_iff.2 (fun e=>he ((Zbw t s).1 e));clear he;go_wp2_with fail;go_roundw
    case rel=>
     refine⟨k+1,by omega,by go_num,zh (fun j u hj hu=>?_),by trivial⟩;by_cases e:j=k
     ·subst e;rw[HTK.o]at hu;cases hu;exact HE.o
     ·exact hok.o j u (by omega) hu
    case measure=>simp[intOf];omega
  ·have HF:Hid (memB s l=false):=zh (by
    cases hm:memB s l
    ·rfl
    ·obtain⟨j,hj⟩:=List.mem_iff_getElem?.1 ((Zbb _ _).1 hm);have:=(List.getElem?_eq_some_iff.1 hj).1;rw[HN.o]at this;exact absurd rfl (hok.o j s (by omega) hj))
   go_wp2_with fail;go_ret;exact⟨Zab HF.o.symm,rfl⟩
def FanO (l:List Rd)(i:ByteArray)(out:List ByteArray):Prop:=out.Pairwise ltN/\∀y,y∈out↔∃r∈l,r.e.item=i/\0<worthP r.e/\r.e.person=y
theorem FanO.off {l:List Rd}{i:ByteArray}{out:List ByteArray}(h:FanO l i out){r:Rd}(hr:¬(r.e.item=i/\0<worthP r.e)):FanO (l++[r]) i out:=⟨h.1,fun y=>by
 rw[h.2 y]
 constructor
 ·rintro ⟨x,hx,h1⟩;exact⟨x,List.mem_append_left _ hx,h1⟩
 ·rintro ⟨x,hx,h1,h2,h3⟩;rcases List.mem_append.1 hx with hx|hx
  ·exact⟨x,hx,h1,h2,h3⟩
  ·simp at hx;subst hx;exact absurd ⟨h1,h2⟩ hr⟩
theorem FanO.on {l:List Rd}{i:ByteArray}{out out':List ByteArray}(h:FanO l i out){r:Rd}(hr:r.e.item=i/\0<worthP r.e)(ho:out'.Pairwise ltN/\∀y,y∈out'↔y∈out\/y=r.e.person):FanO (l++[r]) i out':=⟨ho.1,fun y=>by
 rw[ho.2 y,h.2 y]
 constructor
 ·rintro (⟨x,hx,h1⟩|rfl)
  ·exact⟨x,List.mem_append_left _ hx,h1⟩
  ·exact⟨r,by simp,hr.1,hr.2,rfl⟩
 ·rintro ⟨x,hx,h1,h2,h3⟩;rcases List.mem_append.1 hx with hx|hx
  ·exact Or.inl ⟨x,hx,h1,h2,h3⟩
  ·simp at hx;subst hx;exact Or.inr h3.symm⟩
def PutTo (l:List ByteArray)(s:ByteArray)(k:Nat)(done:Bool)(out:List ByteArray):Prop:=
 out.Pairwise ltN/\(done=false->out=l.take k/\∀x∈l.take k,ltN x s)/\(done=true->(∀y,y∈out↔y∈l.take k\/y=s)/\∀j x,k<=j->l[j]? = some x->ltN s x)
theorem rise_at {l:List ByteArray}(h:l.Pairwise ltN){i j:Nat}{x y:ByteArray}(hij:i<j)(hx:l[i]? = some x)(hy:l[j]? = some y):ltN x y:=by
 obtain⟨hi,rfl⟩:=List.getElem?_eq_some_iff.1 hx;obtain⟨hj,rfl⟩:=List.getElem?_eq_some_iff.1 hy;exact List.pairwise_iff_getElem.1 h i j hi hj hij
theorem take_lt {l:List ByteArray}(h:l.Pairwise ltN){k:Nat}{x y:ByteArray}(hx:l[k]? = some x)(hy:y∈l.take k):ltN y x:=by
 obtain⟨i,hi⟩:=List.mem_iff_getElem?.1 hy;rw[List.getElem?_take]at hi;split at hi
 ·rename_i hik;exact rise_at h hik hi hx
 ·cases hi
theorem snoc_rise {l:List ByteArray}(h:l.Pairwise ltN){x:ByteArray}(hx:∀y∈l,ltN y x):(l++[x]).Pairwise ltN:=by
 rw[List.pairwise_append];exact⟨h,List.pairwise_singleton _ _,fun a ha b hb=>by simp at hb;subst hb;exact hx a ha⟩
section
variable {l : List ByteArray} {s x : ByteArray} {k : Nat} {out : List ByteArray}
theorem PutTo.on (h:PutTo l s k true out)(hr:l.Pairwise ltN)(hx:l[k]? = some x):PutTo l s (k+1) true (out++[x]):=by
 obtain⟨h1,_,h3⟩:=h;obtain⟨h4,h5⟩:=h3 rfl;refine⟨snoc_rise h1 (fun y hy=>?_),fun h=>(by cases h),fun _=>⟨fun y=>?_,fun j z hj hz=>h5 j z (by omega) hz⟩⟩
 ·rcases (h4 y).1 hy with h6|rfl
  ·exact take_lt hr hx h6
  ·exact h5 k x (zr _) hx
 ·have htk:l.take (k+1)=l.take k++[x]:=by rw[List.take_add_one,hx];rfl
  rw[List.mem_append,h4,htk,List.mem_append,List.mem_singleton]
  constructor
  ·rintro ((h|h)|h)
   ·exact Or.inl (Or.inl h)
   ·exact Or.inr h
   ·exact Or.inl (Or.inr h)
  ·rintro ((h|h)|h)
   ·exact Or.inl (Or.inl h)
   ·exact Or.inr h
   ·exact Or.inl (Or.inr h)
theorem PutTo.here (h:PutTo l s k false out)(hr:l.Pairwise ltN)(hx:l[k]? = some x)(hsx:ltN s x):PutTo l s (k+1) true ((out++[s])++[x]):=by
 obtain⟨h1,h2,_⟩:=h;obtain⟨rfl,h3⟩:=h2 rfl;refine PutTo.on ⟨snoc_rise h1 h3,fun h=>(by cases h),fun _=>⟨fun y=>by rw[List.mem_append,List.mem_singleton],fun j z hj hz=>?_⟩⟩ hr hx;by_cases e:j=k
 ·subst e;rw[hx]at hz;cases hz;exact hsx
 ·exact ltN_trans hsx (rise_at hr (by omega) hx hz)
theorem PutTo.past (h:PutTo l s k false out)(hr:l.Pairwise ltN)(hx:l[k]? = some x)(hsx:¬ltN s x)(hne:x≠s):PutTo l s (k+1) false (out++[x]):=by
 obtain⟨h1,h2,_⟩:=h;obtain⟨rfl,h3⟩:=h2 rfl;have htk:l.take (k+1)=l.take k++[x]:=by rw[List.take_add_one,hx];rfl
 refine⟨snoc_rise h1 (fun y hy=>take_lt hr hx hy),fun _=>⟨htk.symm,fun y hy=>?_⟩,fun h=>(by cases h)⟩;rw[htk,List.mem_append,List.mem_singleton]at hy;rcases hy with hy|rfl
 ·exact h3 y hy
 ·exact ltN_of hsx (Ne.symm hne)
end
theorem rput_any (w:World)(A:Option Addr)(l:List ByteArray)(n c:Nat)(s:ByteArray)(base:Nat)(hn:l.length=n)(hown:w.ownsRow base 9 1 (.slice A n c) n (l.map .string))(hbase:base<=w.heap.size)(hr:l.Pairwise ltN)(hb:n<=100000) :
  Calls Tryz.prog 98 #[.slice A n c,.string s] w fun e w'=>∃(A':Option Addr) (c':Nat) (out:List ByteArray),e = .returned (.slice A' out.length c')/\w'.ownsRow base 9 1 (.slice A' out.length c') out.length (out.map .string)/\(out.Pairwise ltN/\∀y,y∈out↔y∈l\/y=s)/\out.length<=n+1/\Below w.heap.size w w':=by
 have HN:=zh hn;have HL:=zh (RowIn.of_own hown);have HR:=zh hr;have HOW:=zh hown;have HIN:=zh (rin16_any w w.heap.size A l n c s hn HL.o (by omega));have HOE:=zh (Zhl w 9 1);obtain⟨w1,hw1⟩:=zG (w.alloc (.cells #[] 9));rw[hw1]at HOE;have HB1:=zA hw1;obtain⟨i0,hi0,hz0,hz1,hz2⟩:=info_parts Zjy;clear hn hr hown;go_enter Tryz.func98,Tryz.ntmps98;go_wp2_with fail;refine HIN.o.mono ?_;rintro e w2 ⟨rfl,rfl⟩;clear HIN;cases hmem:memB s l
 rotate_left
 ·have HMM:Hid (s∈l):=zh ((Zbb _ _).1 hmem);clear hmem;go_wp2_with fail;go_ret;refine⟨A,c,l,by rw[HN.o];rfl,by rw[HN.o];exact HOW.o,⟨HR.o,fun y=>⟨Or.inl,fun h=>h.elim id (fun h=>by rw[h];exact HMM.o)⟩⟩,by rw[HN.o];omega,Below.refl _ _⟩
 have HNM:Hid (∀x∈l,x≠s):=zh (fun x hx e=>by rw[e]at hx;rw[(Zbb _ _).2 hx]at hmem;cases hmem);clear hmem;go_wp2_with fail;clear hw1;go_loopw [5,6,7] (fun v d i wr=>∃(k:Nat) (dn:Bool) (out:List ByteArray),k<=n/\i = .int .i64 k/\d = .bool dn/\Hid (out.length<=k+1/\(dn=false->out.length<=k))/\Hid (PutTo l s k dn out)/\Hid (wr.ownsRow w.heap.size 9 1 v out.length (out.map .string))/\Hid (Below w.heap.size w wr)) (fun _ _ i _=>n - (intOf i).toNat)
 case atStart=>exact⟨0,false,[],Nat.zero_le _,rfl,rfl,zh ⟨Nat.zero_le _,fun _=>zr _⟩,zh ⟨List.Pairwise.nil,fun _=>⟨rfl,fun x hx=>(by cases hx)⟩,fun h=>(by cases h)⟩,HOE,HB1⟩
 case round=>
  clear HOE HB1;obtain⟨k,dn,out,hk,rfl,rfl,hlo,hput,hrow,hbw⟩:=hrel;obtain⟨A5,c5,hq⟩:=own_shape hrow.o;rw[hq]at hrow ⊢;clear hq;have hwz:=hbw.o.size;obtain⟨m,hm⟩:=zG (out.length);rw[hm]at hlo hrow ⊢;have HM:=zh hm;obtain⟨hlo1,hlo2⟩:=hlo.o;clear hm hlo;by_cases hlt:k<n
  ·obtain⟨x,hx⟩:∃x,l[k]? = some x:=⟨l[k]'(by rw[HN.o];exact hlt),List.getElem?_eq_getElem _⟩
   obtain⟨g,o,rfl,hgB,hcl⟩:=HL.o.at (by omega);have HE0:Hid (∀W,Below w.heap.size w W->W.cell? ⟨g,o+k,none⟩=some (.string x)):=zh (fun W hW=>(hW.cell (p:=⟨g,o+k,none⟩) hgB).trans (hcl k _ (by simp[hx])));have e0:=HE0.o wr hbw.o;have HX:=zh hx;have HXS:Hid (x≠s):=zh (HNM.o x (List.mem_of_getElem? hx));have hk8:(k:Int)<(n:Int):=by omega
   have hk9:(0:Int)<=(k:Int):=by omega
   clear hcl hx;cases dn
   ·cases hlt2:Op.bytesLess s.toList x.toList
    ·have HP:Hid (PutTo l s (k+1) false (out++[x])):=zh (hput.o.past HR.o HX.o (fun h=>by rw[(less_iff s x).2 h]at hlt2;cases hlt2) HXS.o);have hlo3:=hlo2 rfl;clear hlo2
     go_wp2_with (first
      | (at_builtin;refine Zaa _ rfl _ _ 62 rfl w.heap.size 9 i0 _ 1 16 Tryz.underlying62 hi0 hz0 hz1 hz2 rfl (by omega) (.slice A5 m c5) m _ rfl (hrow.o.alloc _) (wr.heap.size+1) (some ⟨wr.heap.size,0,none⟩) 1 1 [.string x] rfl (Zit wr x _) (fun h=>by cases h) (fun u hu=>by rw[List.mem_singleton]at hu;subst hu;rfl) (by unfold maxLen;omega) (by omega) (by simp;omega) ?_;intro v7 w7 ho7 hg7 hv7))
     go_roundw
     case rel=>
      refine⟨k+1,false,out++[x],by omega,by go_num,rfl,zh ?_,HP,zh ?_,zh ((hbw.o.alloc hwz _).grown hg7 (by simp;omega) (fun j hj=>(hrow.o.lt _ hj).1))⟩
      ·rw[List.length_append,HM.o];simp;omega
      ·rw[List.length_append,HM.o,List.map_append];exact ho7
     case measure=>simp[intOf];omega
    ·have HP:Hid (PutTo l s (k+1) true ((out++[s])++[x])):=zh (hput.o.here HR.o HX.o ((less_iff s x).1 hlt2));have hlo3:=hlo2 rfl;clear hlo2
     go_wp2_with (first
      | (at_builtin;refine Zaa _ rfl _ _ 62 rfl w.heap.size 9 i0 _ 1 16 Tryz.underlying62 hi0 hz0 hz1 hz2 rfl (by omega) (.slice A5 m c5) m _ rfl (hrow.o.alloc _) (wr.heap.size+1) (some ⟨wr.heap.size,0,none⟩) 1 1 [.string s] rfl (Zit wr s _) (fun h=>by cases h) (fun u hu=>by rw[List.mem_singleton]at hu;subst hu;rfl) (by unfold maxLen;omega) (by omega) (by simp;omega) ?_;intro v7 w7 ho7 hg7 hv7;obtain⟨A7,c7,hv⟩:=own_shape ho7;subst hv;have HB7:Hid (Below w.heap.size w w7):=zh ((hbw.o.alloc hwz _).grown hg7 (by simp;omega) (fun j hj=>(hrow.o.lt _ hj).1));have HO7:=zh ho7;have e7:=HE0.o w7 HB7.o;have hz7:=HB7.o.size;clear ho7 hg7 hv7)
      | (at_builtin;refine Zaa _ rfl _ _ 62 rfl w.heap.size 9 i0 _ 1 16 Tryz.underlying62 hi0 hz0 hz1 hz2 rfl (by omega) (.slice A7 (m+1) c7) (m+1) _ rfl (HO7.o.alloc _) (w7.heap.size+1) (some ⟨w7.heap.size,0,none⟩) 1 1 [.string x] rfl (Zit w7 x _) (fun h=>by cases h) (fun u hu=>by rw[List.mem_singleton]at hu;subst hu;rfl) (by unfold maxLen;omega) (by omega) (by simp;omega) ?_;intro v8 w8 ho8 hg8 hv8))
     go_roundw
     case rel=>
      refine⟨k+1,true,(out++[s])++[x],by omega,by go_num,rfl,zh ?_,HP,zh ?_,zh ((HB7.o.alloc HB7.o.size _).grown hg8 (by simp;omega) (fun j hj=>(HO7.o.lt _ hj).1))⟩
      ·rw[List.length_append,List.length_append,HM.o];simp;omega
      ·rw[List.length_append,List.length_append,HM.o,List.map_append,List.map_append];exact ho8
     case measure=>simp[intOf];omega
   ·have HP:Hid (PutTo l s (k+1) true (out++[x])):=zh (hput.o.on HR.o HX.o);clear hlo2
    go_wp2_with (first
     | (at_builtin;refine Zaa _ rfl _ _ 62 rfl w.heap.size 9 i0 _ 1 16 Tryz.underlying62 hi0 hz0 hz1 hz2 rfl (by omega) (.slice A5 m c5) m _ rfl (hrow.o.alloc _) (wr.heap.size+1) (some ⟨wr.heap.size,0,none⟩) 1 1 [.string x] rfl (Zit wr x _) (fun h=>by cases h) (fun u hu=>by rw[List.mem_singleton]at hu;subst hu;rfl) (by unfold maxLen;omega) (by omega) (by simp;omega) ?_;intro v7 w7 ho7 hg7 hv7))
    go_roundw
    case rel=>
     refine⟨k+1,true,out++[x],by omega,by go_num,rfl,zh ?_,HP,zh ?_,zh ((hbw.o.alloc hwz _).grown hg7 (by simp;omega) (fun j hj=>(hrow.o.lt _ hj).1))⟩
     ·rw[List.length_append,HM.o];simp;omega
     ·rw[List.length_append,HM.o,List.map_append];exact ho7
    case measure=>simp[intOf];omega
  ·obtain rfl:n=k:=by omega
   have htl:l.take n=l:=by rw[<-HN.o,List.take_length]
   cases dn
   ·obtain⟨p1,p2,_⟩:=hput.o;obtain⟨p3,p4⟩:=p2 rfl;rw[htl]at p3 p4;have HPF:Hid ((out++[s]).Pairwise ltN/\∀y,y∈out++[s]↔y∈l\/y=s):=zh ⟨snoc_rise p1 (by rw[p3];exact p4),fun y=>by rw[List.mem_append,List.mem_singleton,p3]⟩;have hlo3:=hlo2 rfl;clear p1 p2 p3 p4 hput htl hlo2
    go_wp2_with (first
     | (at_builtin;refine Zaa _ rfl _ _ 62 rfl w.heap.size 9 i0 _ 1 16 Tryz.underlying62 hi0 hz0 hz1 hz2 rfl (by omega) (.slice A5 m c5) m _ rfl (hrow.o.alloc _) (wr.heap.size+1) (some ⟨wr.heap.size,0,none⟩) 1 1 [.string s] rfl (Zit wr s _) (fun h=>by cases h) (fun u hu=>by rw[List.mem_singleton]at hu;subst hu;rfl) (by unfold maxLen;omega) (by omega) (by simp;omega) ?_;intro v7 w7 ho7 hg7 hv7))
    obtain⟨A7,c7,hv⟩:=own_shape ho7;subst hv;go_ret;refine⟨A7,c7,out++[s],?_,?_,HPF.o,?_,(hbw.o.alloc hwz _).grown hg7 (by simp;omega) (fun j hj=>(hrow.o.lt _ hj).1)⟩
    ·rw[List.length_append,HM.o];rfl
    ·rw[List.length_append,HM.o,List.map_append];exact Zgj ho7 hbase
    ·rw[List.length_append,HM.o];simp;omega
   ·obtain⟨p1,_,p3⟩:=hput.o;obtain⟨p4,_⟩:=p3 rfl;rw[htl]at p4;have HPF:Hid (out.Pairwise ltN/\∀y,y∈out↔y∈l\/y=s):=zh ⟨p1,p4⟩;clear p1 p3 p4 hput htl hlo2;go_wp2_with fail;go_ret;refine⟨A5,c5,out,by rw[HM.o];rfl,by rw[HM.o];exact Zgj hrow.o hbase,HPF.o,by rw[HM.o];omega,hbw.o⟩
theorem rfans_any (w:World)(B:Nat)(A:Option Addr)(n c:Nat)(xl:List Rd)(i:ByteArray)(hn:xl.length=n)(hr:RowIn w B 9 A n (xl.flatMap rdC))(hB:B<=w.heap.size)(hb:n<=1000) :
  Calls Tryz.prog 53 #[.slice A n c,.string i] w fun e w'=>∃(m:Nat) (out:List ByteArray),e = .returned (.int .i64 m)/\m=out.length/\FanO xl i out/\Below w.heap.size w w':=by
 have HN:=zh hn;have HR:=zh hr;obtain⟨w1,hw1⟩:=zG (w.alloc (.cells #[] 9));have HO1:Hid (w1.ownsRow w.heap.size 9 1 (.slice (some ⟨w.heap.size,0,none⟩) 0 0) 0 []):=zh (by rw[<-hw1];exact Zhl _ _ _);have HB1:=zA hw1;clear hn hr;go_enter Tryz.func53,Tryz.ntmps53;go_wp2_with fail;clear hw1;go_loopw [5,6] (fun v i' wr=>∃(k m:Nat) (out:List ByteArray),k<=n/\m<=k/\i' = .int .i64 k/\Hid (out.length=m/\FanO (xl.take k) i out)/\Hid (wr.ownsRow w.heap.size 9 1 v m (out.map .string))/\Hid (Below w.heap.size w wr)) (fun _ i _=>n - (intOf i).toNat)
 case atStart=>exact⟨0,0,[],Nat.zero_le _,zr _,rfl,zh ⟨rfl,List.Pairwise.nil,fun y=>by simp⟩,HO1,HB1⟩
 case round=>
  clear HO1 HB1;obtain⟨k,m,out,hk,hmk,rfl,hm,hrow,hbw⟩:=hrel;obtain⟨A5,c5,hq⟩:=own_shape hrow.o;rw[hq]at hrow ⊢;clear hq;have hwz:=hbw.o.size;by_cases hlt:k<n
  ·obtain⟨x,hx⟩:∃x,xl[k]? = some x:=⟨xl[k]'(by rw[HN.o];exact hlt),List.getElem?_eq_getElem _⟩
   have HSN:Hid (xl.take (k+1)=xl.take k++[x]):=zh (Zbd hx);obtain⟨g,o,rfl,hgB,hcl⟩:=Ztq HR.o (by omega);have HRK:Hid (∀W,Below w.heap.size w W->RdAt W g (o+k*9) x):=zh (fun W hW=>(hcl k x hx).keep (fun j=>hW.cell (p:=⟨g,j,none⟩) (by show g<_;omega)));obtain⟨e0,e1,e2,e3,e4,e5,e6,e7,e8⟩:=HRK.o wr hbw.o;have hk8:(k:Int)<(n:Int):=by omega
   have hk9:(0:Int)<=(k:Int):=by omega
   clear hcl hx;by_cases q1:x.e.item=i
   rotate_left
   ·have HS1:Hid (out.length=m/\FanO (xl.take (k+1)) i out):=zh ⟨hm.o.1,by rw[HSN.o];exact hm.o.2.off (fun h=>q1 h.1)⟩;have s1:=str_f q1;clear q1 HSN;go_wp2_with fail;go_roundw
    case rel=>exact⟨k+1,m,out,by omega,by omega,by go_num,HS1,hrow,hbw⟩
    case measure=>simp[intOf];omega
   have s1:=str_t q1;have HQ1:=zh q1;clear q1;have HWO:=zh (rworth_any x.e wr);unfold evA at HWO;obtain⟨wv,hwv⟩:=zG (worthP x.e);rw[hwv]at HWO;go_wp2_with fail;refine HWO.o.mono ?_;rintro e w5 ⟨rfl,hb5⟩;have HB5:=zT hbw hb5;have HO5:Hid (w5.ownsRow w.heap.size 9 1 (.slice A5 m c5) m (out.map .string)):=zh (owns_kept hrow.o (below_kept (S:=fun _=>False) hb5 (zr _)) (fun _ _ h=>h));have hz5:=HB5.o.size;have HPU:=zh (rput_any w5 A5 out m c5 x.e.person w.heap.size hm.o.1 HO5.o hz5 hm.o.2.1 (by omega));clear e0 e1 e2 e3 e4 e5 e6 e7 e8;obtain⟨e0,e1,e2,e3,e4,e5,e6,e7,e8⟩:=HRK.o w5 HB5.o;clear hb5 HWO;by_cases q2:0<wv
   rotate_left
   ·have HS1:Hid (out.length=m/\FanO (xl.take (k+1)) i out):=zh ⟨hm.o.1,by rw[HSN.o];exact hm.o.2.off (fun h=>q2 (by rw[<-hwv];exact h.2))⟩;have s2:decide (0<wv)=false:=decide_eq_false q2;clear HSN hwv HPU;go_wp2_with fail;go_roundw
    case rel=>exact⟨k+1,m,out,by omega,by omega,by go_num,HS1,HO5,HB5⟩
    case measure=>simp[intOf];omega
   have HQ2:Hid (x.e.item=i/\0<worthP x.e):=zh ⟨HQ1.o,by rw[hwv];exact q2⟩;have s2:decide (0<wv)=true:=decide_eq_true q2;clear hwv;go_wp2_with fail;refine HPU.o.mono ?_;rintro e w6 ⟨A6,c6,out',rfl,ho6,hm6,hl6,hb6⟩;obtain⟨m6,hm6'⟩:=zG (out'.length);rw[hm6']at ho6 hl6 ⊢;have HO6:=zh ho6;have HB6:Hid (Below w.heap.size w w6):=zh (HB5.o.trans (hb6.mono hz5));have HS1:Hid (out'.length=m6/\FanO (xl.take (k+1)) i out'):=zh ⟨hm6',by rw[HSN.o];exact hm.o.2.on HQ2.o hm6⟩;clear ho6 hm6 hb6 hm6' HPU e0 e1 e2 e3 e4 e5 e6 e7 e8;go_wp2_with fail;go_roundw
   case rel=>exact⟨k+1,m6,out',by omega,by omega,by go_num,HS1,HO6,HB6⟩
   case measure=>simp[intOf];omega
  ·obtain rfl:n=k:=by omega
   have hta:xl.take n=xl:=by rw[<-HN.o,List.take_length]
   rw[hta]at hm;go_wp2_with fail;go_ret;exact⟨m,out,rfl,hm.o.1.symm,hm.o.2,hbw.o⟩
end Go.Proofs.YtphmhbcimhlcjaaGreatDoor
namespace Go.Proofs.YtphmhbcimhlcjaaGreatDoor
open Go.Shelf Go.RowKit Go.Maps
open Ct (It St it0 st0 atP takesB catB stepSt rowOf uptoP ofN rowStep itA toldP Rising Zck Ze9)
theorem nil_of {t:ByteArray}(h:t.toList = []):t=⟨#[]⟩:=of_decide_eq_true (by rw[<-Zcj,h];rfl)
theorem wordE_congr {f g:Ev->Bool}{a b:Int}{l:List Ev}(h:∀e∈l,(e.kind=a\/e.kind=b)->f e=g e):wordE f a b l=wordE g a b l:=by
 refine snocI (p:=fun l=>(∀e∈l,(e.kind=a\/e.kind=b)->f e=g e)->wordE f a b l=wordE g a b l) (fun _=>rfl) (fun l x ih h=>?_) l h;have ih':=ih (fun e he=>h e (List.mem_append_left _ he));have hx:=h x (by simp);rw[Zbc,Zbc,ih'];by_cases hk:x.kind=a\/x.kind=b
 ·rw[hx hk]
 ·have d:decide (x.kind=a\/x.kind=b)=false:=decide_eq_false hk;rw[d,Bool.and_false,Bool.and_false]
theorem lst_word (p i t:ByteArray)(a b:Int)(xl:List Rd):lstK (ownR xl p) i t a b=match wordE (fun e=>decide (e.person=p/\e.item=i/\e.text=t)) a b (xl.map (·.e)) with
  | none=>-1
  | some true=>a
  | some false=>b:=by
 refine snocI (p:=fun xl=>lstK (ownR xl p) i t a b=match wordE (fun e=>decide (e.person=p/\e.item=i/\e.text=t)) a b (xl.map (·.e)) with
  | none=>-1
  | some true=>a
  | some false=>b) rfl (fun l x ih=>?_) xl
 rw[List.map_append,List.map_singleton,Zbc,ownR_snoc];by_cases hp:x.e.person=p
 ·rw[if_pos hp,lstK_snoc];unfold lstF;by_cases hc:x.e.item=i/\x.e.text=t/\(x.e.kind=a\/x.e.kind=b)
  ·rw[if_pos hc,if_pos (by simp[hp,hc.1,hc.2.1,hc.2.2])];by_cases h1:x.e.kind=a
   ·simp[h1]
   ·rw[decide_eq_false h1];exact hc.2.2.resolve_left h1
  ·rw[if_neg hc,if_neg (fun h=>hc ?_)]
   ·exact ih
   ·rw[Bool.and_eq_true]at h;have h1:=of_decide_eq_true h.1;exact⟨h1.2.1,h1.2.2,of_decide_eq_true h.2⟩
 ·rw[if_neg hp,if_neg (fun h=>hp ?_)]
  ·exact ih
  ·rw[Bool.and_eq_true]at h;exact (of_decide_eq_true h.1).1
theorem lst_hit {p i t:ByteArray}{a b:Int}(hab:a≠b)(ha:0<=a)(xl:List Rd):decide (lstK (ownR xl p) i t a b=a)=decide (wordE (fun e=>decide (e.person=p/\e.item=i/\e.text=t)) a b (xl.map (·.e))=some true):=by
 rw[lst_word];cases wordE (fun e=>decide (e.person=p/\e.item=i/\e.text=t)) a b (xl.map (·.e)) with
 | none=>simp;omega
 | some v=>cases v <;> simp[Ne.symm hab]
theorem crE_may {es:List Ev}(h:∀e∈es,mayB e=true):∀e∈crE es,mayB e=true:=fun e he=>h e (List.mem_filter.1 he).1
theorem last_hid {es:List Ev}(hm:∀e∈es,mayB e=true){xl:List Rd}(hx:xl.map (·.e)=crE es)(p i:ByteArray):decide (lstK (ownR xl p) i ⟨#[]⟩ 5 6=5)=(hidO (rowsW es) p i).getD false:=by
 rw[lst_hit (by omega) (by omega),hx,Zdg,wordE_congr (g:=fun e=>decide (e.person=p/\e.item=i))]
 ·cases wordE (fun e=>decide (e.person=p/\e.item=i)) 5 6 (crE es) with
  | none=>rfl
  | some v=>cases v <;> rfl
 ·intro e he hk;have h1:=(Zas (crE_may hm e he)).2.2.2;have h2:e.text=⟨#[]⟩:=by
   unfold kindB at h1;rcases hk with hk|hk <;> simp[hk,empB]at h1 <;> exact nil_of h1.2.2.2
  simp[h2]
theorem last_mut {es:List Ev}(hm:∀e∈es,mayB e=true){xl:List Rd}(hx:xl.map (·.e)=crE es)(p t:ByteArray):decide (lstK (ownR xl p) ⟨#[]⟩ t 9 10=9)=decide (mutO (rowsW es) p t=some true):=by
 rw[lst_hit (by omega) (by omega),hx,Zdh,wordE_congr (g:=fun e=>decide (e.person=p/\e.text=t))];intro e he hk;have h1:=(Zas (crE_may hm e he)).2.2.2;have h2:e.item=⟨#[]⟩:=by
  unfold kindB at h1;rcases hk with hk|hk <;> simp[hk,empB]at h1 <;> exact nil_of h1.2.1
 simp[h2]
theorem nodup_le:∀(a b:List ByteArray),a.Nodup->(∀x∈a,x∈b)->a.length<=b.length
 | [],_,_,_=>Nat.zero_le _
 | x::a,b,hn,hs=>by
  rw[List.nodup_cons]at hn;have hx:=hs x (by simp);have h1:=nodup_le a (b.filter fun y=>decide (y≠x)) hn.2 (fun y hy=>List.mem_filter.2 ⟨hs y (by simp[hy]),decide_eq_true (fun e=>hn.1 (by rw[<-e];exact hy))⟩);have h2:(b.filter fun y=>decide (y≠x)).length<b.length:=List.length_filter_lt_length_iff_exists.2 ⟨x,hx,by simp⟩;rw[List.length_cons];omega
theorem nodup_eq {a b:List ByteArray}(ha:a.Nodup)(hb:b.Nodup)(h:∀x,x∈a↔x∈b):a.length=b.length:=Nat.le_antisymm (nodup_le a b ha (fun x=>(h x).1)) (nodup_le b a hb (fun x=>(h x).2))
theorem fan_same {es:List Ev}{xl:List Rd}(hx:xl.map (·.e)=crE es){i:ByteArray}{out:List ByteArray}(h:FanO xl i out):out.length=fansN (rowsW es) i:=by
 refine nodup_eq (h.1.imp (fun hab e=>by subst e;exact ltN_irr _ hab)) (Zml (rowsW es) i).1 (fun y=>?_);rw[h.2 y,(Zml (rowsW es) i).2 y,Zsf,List.any_eq_true,<-hx]
 constructor
 ·rintro ⟨r,hr,h1,h2,h3⟩;exact⟨r.e,List.mem_map.2 ⟨r,hr,rfl⟩,by rw[decide_eq_true ⟨h3,h1⟩,decide_eq_true h2];rfl⟩
 ·rintro ⟨e,he,h1⟩;obtain⟨r,hr,rfl⟩:=List.mem_map.1 he;rw[Bool.and_eq_true]at h1;have h2:=of_decide_eq_true h1.1;exact⟨r,hr,h2.2,of_decide_eq_true h1.2,h2.1⟩
theorem crE_snoc (es:List Ev)(e:Ev):crE (es++[e])=if e.kind<11 then crE es++[e] else crE es:=by
 unfold crE;rw[List.filter_append];by_cases h:e.kind<11 <;> simp[h]
theorem sorted_rise {es:List Ev}(h:SortedE es):Rising (thgs es):=(Zau h isCat).imp (fun {a b} hab=>by
 rw[Zba]at hab;by_cases h3:cmpI a.tick b.tick=0
 ·have:=Ze6 h3;omega
 ·rw[if_neg h3]at hab;exact Int.le_of_lt (cI_lt.1 hab))
theorem ofN_app (a b:List Ev)(n:ByteArray):ofN (a++b) n=ofN a n++ofN b n:=by
 unfold ofN;rw[List.filter_append]
theorem foldl_pre (l:List Ev):∀r:List St,∃s,l.foldl rowStep r=r++s/\s.map (·.tick)=l.map (·.tick):=by
 induction l with
 | nil=>intro r;exact⟨[],by simp,rfl⟩
 | cons e l ih=>
  intro r;rw[List.foldl_cons];obtain⟨s,h1,h2⟩:=ih (rowStep r e);refine⟨stepSt (r.getLast?.getD (st0 e.item)) e::s,by rw[h1];unfold rowStep;simp,by simp[h2,Ze9]⟩
theorem upto_app {r s:List St}{t:Int}(h1:∀x∈r,x.tick<=t)(h2:∀x∈s,t<x.tick):uptoP (r++s) t=r:=by
 induction r with
 | nil=>
  cases s with
  | nil=>rfl
  | cons x s=>
   have:=h2 x (by simp);simp only[uptoP,List.nil_append];rw[List.takeWhile_cons_of_neg (by simpa using this)]
 | cons x r ih=>
  have h0:=h1 x (by simp);simp only[uptoP,List.cons_append];rw[List.takeWhile_cons_of_pos (by simpa using h0)];have:=ih (fun y hy=>h1 y (List.mem_cons_of_mem _ hy));simp only[uptoP]at this;rw[this]
theorem rise_split {l:List Ev}(h:Rising l)(t:Int):∃b,l=(l.filter fun e=>decide (e.tick<=t))++b/\∀e∈b,t<e.tick:=by
 induction l with
 | nil=>exact⟨[],rfl,fun e he=>by cases he⟩
 | cons e l ih=>
  have hp:=List.pairwise_cons.1 h;by_cases he:e.tick<=t
  ·obtain⟨b,h1,h2⟩:=ih hp.2;refine⟨b,?_,h2⟩;rw[List.filter_cons_of_pos (by simpa using he),List.cons_append,<-h1]
  ·refine⟨e::l,?_,fun x hx=>?_⟩
   ·have:(e::l).filter (fun e=>decide (e.tick<=t)) = []:=by
     rw[List.filter_eq_nil_iff];intro x hx;rcases List.mem_cons.1 hx with rfl|hx
     ·simpa using he
     ·have:=hp.1 x hx;simp;omega
    rw[this];rfl
   ·rcases List.mem_cons.1 hx with rfl|hx
    ·omega
    ·have:=hp.1 x hx;omega
theorem row_in {es:List Ev}{n:ByteArray}{s:St}(h:s∈rowOf es n):∃e∈es,e.tick=s.tick:=by
 have h1:s.tick∈(rowOf es n).map (·.tick):=List.mem_map.2 ⟨s,h,rfl⟩;rw[Zck]at h1;obtain⟨e,he,h2⟩:=List.mem_map.1 h1;exact⟨e,(List.mem_filter.1 he).1,h2⟩
theorem at_ahead {l:List Ev}(h:Rising l)(n:ByteArray)(t:Int):atP l n t=((rowOf (l.filter fun e=>decide (e.tick<=t)) n).getLast?).map (·.item):=by
 obtain⟨b,h1,h2⟩:=rise_split h t;generalize hf:(l.filter fun e=>decide (e.tick<=t))=a at *;have ha:∀e∈a,e.tick<=t:=fun e he=>by rw[<-hf]at he;simpa using (List.mem_filter.1 he).2
 unfold atP;congr 1;rw[h1];unfold rowOf;rw[ofN_app,List.foldl_append];obtain⟨s,h3,h4⟩:=foldl_pre (ofN b n) ((ofN a n).foldl rowStep []);rw[h3,upto_app]
 ·intro x hx;obtain⟨e,he,h5⟩:=row_in (es:=a) (n:=n) hx;rw[<-h5];exact ha e he
 ·intro x hx;have h5:x.tick∈s.map (·.tick):=List.mem_map.2 ⟨x,hx,rfl⟩;rw[h4]at h5;obtain⟨e,he,h6⟩:=List.mem_map.1 h5;rw[<-h6];exact h2 e (List.mem_filter.1 he).1
theorem rx_at {l:List Ev}(h:Rising l)(n:ByteArray)(t:Int):rx (rst l n t)=(atP l n t).getD it0:=by
 rw[at_ahead h n t]
 rfl
end Go.Proofs.YtphmhbcimhlcjaaGreatDoor
